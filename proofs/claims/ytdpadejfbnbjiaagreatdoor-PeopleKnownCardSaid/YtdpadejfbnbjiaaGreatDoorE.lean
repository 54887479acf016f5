/- A verified abstract machine for this program, contracts of its functions, and rows: OpsG, OpsH, Sim, Sched. -/
import Derived.Test.YtdpadejfbnbjiaaGreatDoorD
import Derived.Orders
/- What each translated operation does in the model: looking up, writing and deleting a key. -/
set_option linter.unusedVariables false
set_option linter.unusedSimpArgs false
namespace Rst
open Go

/-- Where a key stands. -/
def findIx (t : KT) (k : AVal) : List (AVal × AVal) → Option (Option Nat)
  | [] => some none
  | (k', _) :: r => match keyEq t k k' with
    | some true => some (some 0)
    | some false => match findIx t k r with
      | some (some i) => some (some (i + 1))
      | some none => some none
      | none => none
    | none => none

theorem findIx_findK {t : KT} {k : AVal} : ∀ {es : List (AVal × AVal)} {r : Option AVal}, findK t k es = some r →
    (r = none ∧ findIx t k es = some none) ∨ ∃ i e, findIx t k es = some (some i) ∧ es[i]? = some e ∧ r = some e.2
  | [], r, h => by simp [findK] at h; subst h; exact .inl ⟨rfl, rfl⟩
  | (k', v) :: es, r, h => by
    simp only [findK] at h
    split at h
    · rename_i hk
      injection h with h; subst h
      exact .inr ⟨0, (k', v), by simp [findIx, hk], rfl, rfl⟩
    · rename_i hk
      rcases findIx_findK h with ⟨h1, h2⟩ | ⟨i, e, h1, h2, h3⟩
      · exact .inl ⟨h1, by simp [findIx, hk, h2]⟩
      · exact .inr ⟨i + 1, e, by simp [findIx, hk, h1], by simpa using h2, h3⟩
    · cases h
theorem findIx_putK {t : KT} {k v : AVal} : ∀ {es r : List (AVal × AVal)}, putK t k v es = some r →
    (findIx t k es = some none ∧ r = es ++ [(k, v)]) ∨ ∃ i e, findIx t k es = some (some i) ∧ es[i]? = some e ∧ keyEq t k e.1 = some true ∧ r = es.set i (k, v)
  | [], r, h => by simp [putK] at h; subst h; exact .inl ⟨rfl, rfl⟩
  | (k', v') :: es, r, h => by
    simp only [putK] at h
    split at h
    · rename_i hk
      injection h with h; subst h
      exact .inr ⟨0, (k', v'), by simp [findIx, hk], rfl, hk, rfl⟩
    · rename_i hk
      cases hp : putK t k v es with
      | none => rw [hp] at h; cases h
      | some r' =>
        rw [hp] at h
        simp only [Option.map, Option.some.injEq] at h
        subst h
        rcases findIx_putK hp with ⟨h1, h2⟩ | ⟨i, e, h1, h2, h3, h4⟩
        · exact .inl ⟨by simp [findIx, hk, h1], by simp [h2]⟩
        · exact .inr ⟨i + 1, e, by simp [findIx, hk, h1], by simpa using h2, h3, by simp [h4]⟩
    · cases h
theorem findIx_delK {t : KT} {k : AVal} : ∀ {es r : List (AVal × AVal)}, delK t k es = some r →
    (findIx t k es = some none ∧ r = es) ∨ ∃ i e, findIx t k es = some (some i) ∧ es[i]? = some e ∧ r = es.eraseIdx i
  | [], r, h => by simp [delK] at h; subst h; exact .inl ⟨rfl, rfl⟩
  | (k', v') :: es, r, h => by
    simp only [delK] at h
    split at h
    · rename_i hk
      injection h with h; subst h
      exact .inr ⟨0, (k', v'), by simp [findIx, hk], rfl, rfl⟩
    · rename_i hk
      cases hp : delK t k es with
      | none => rw [hp] at h; cases h
      | some r' =>
        rw [hp] at h
        simp only [Option.map, Option.some.injEq] at h
        subst h
        rcases findIx_delK hp with ⟨h1, h2⟩ | ⟨i, e, h1, h2, h3⟩
        · exact .inl ⟨by simp [findIx, hk, h1], by simp [h2]⟩
        · exact .inr ⟨i + 1, e, by simp [findIx, hk, h1], by simpa using h2, by simp [h3]⟩
    · cases h

theorem ERel.get {ι : Inj} {es : List (AVal × AVal)} {es' : List MapEntry} (h : ERel ι es es') : ∀ {i : Nat} {e : AVal × AVal}, es[i]? = some e → ∃ e', es'[i]? = some e' ∧ VRel ι e.1 e'.key ∧ VRel ι e.2 e'.val := by
  induction h with
  | nil => intro i e he; simp at he
  | cons k v e0 es es' hk hv _ ih =>
    intro i e he
    cases i with
    | zero => simp at he; subst he; exact ⟨e0, rfl, hk, hv⟩
    | succ i =>
      obtain ⟨e', h1, h2, h3⟩ := ih (i := i) (e := e) (by simpa using he)
      exact ⟨e', by simpa using h1, h2, h3⟩
theorem ERel.set {ι : Inj} {es : List (AVal × AVal)} {es' : List MapEntry} (h : ERel ι es es') : ∀ {i : Nat} {k v : AVal} {e' : MapEntry}, VRel ι k e'.key → VRel ι v e'.val → ERel ι (es.set i (k, v)) (es'.set i e') := by
  induction h with
  | nil => intro i k v e' _ _; exact .nil
  | cons k v e0 es es' hk hv hr ih =>
    intro i k1 v1 e1 h1 h2
    cases i with
    | zero => exact .cons _ _ _ _ _ h1 h2 hr
    | succ i => exact .cons _ _ _ _ _ hk hv (ih h1 h2)
theorem ERel.push {ι : Inj} {es : List (AVal × AVal)} {es' : List MapEntry} (h : ERel ι es es') {k v : AVal} {e' : MapEntry} (h1 : VRel ι k e'.key) (h2 : VRel ι v e'.val) : ERel ι (es ++ [(k, v)]) (es' ++ [e']) := by
  induction h with
  | nil => exact .cons _ _ _ _ _ h1 h2 .nil
  | cons k v e0 es es' hk hv hr ih => exact .cons _ _ _ _ _ hk hv ih
theorem ERel.erase {ι : Inj} {es : List (AVal × AVal)} {es' : List MapEntry} (h : ERel ι es es') : ∀ {i : Nat}, ERel ι (es.eraseIdx i) (es'.eraseIdx i) := by
  induction h with
  | nil => intro i; exact .nil
  | cons k v e0 es es' hk hv hr ih =>
    intro i
    cases i with
    | zero => exact hr
    | succ i => exact .cons _ _ _ _ _ hk hv ih

section
variable {P : Program}

theorem keyEq_aeq {q : KT} {x y : AVal} {b : Bool} (h : keyEq q x y = some b) : aeq q x y = some b := by
  unfold keyEq at h
  split at h <;> first | exact h | (cases h; done)

theorem findAsking_spec {ι : Inj} {w : World} {t : TypeId} {q : KT} (hq : trKT P t = some q) {k : AVal} {K : Value} (hk : VRel ι k K) {es : List (AVal × AVal)} {es' : List MapEntry} (h : ERel ι es es') :
    ∀ (i : Nat) (r : Option Nat), findIx q k es = some r → (Instr.findAsking t K es' i).run P w = .ok (match r with | none => none | some j => some (i + j, ((es'[j]?).map (·.val)).getD default)) w := by
  induction h with
  | nil => intro i r hr; simp [findIx] at hr; subst hr; rfl
  | cons k0 v0 e0 es es' hk0 hv0 hes ih =>
    intro i r hr
    simp only [findIx] at hr
    simp only [Instr.findAsking, Sem.run_bind]
    split at hr
    · rename_i he
      injection hr with hr; subst hr
      rw [aeq_spec hq hk hk0 (keyEq_aeq he)]
      simp
    · rename_i he
      rw [aeq_spec hq hk hk0 (keyEq_aeq he)]
      simp only [Result.andThen_ok, Bool.false_eq_true, if_false]
      split at hr <;> first | (cases hr; done) | skip
      · rename_i j hj
        injection hr with hr; subst hr
        rw [ih (i + 1) (some j) hj]
        simp [show i + 1 + j = i + (j + 1) from by omega]
      · rename_i hj
        injection hr with hr; subst hr
        rw [ih (i + 1) none hj]
    · cases hr

theorem ba_beq (s s' : ByteArray) : (s == s') = (s.data.toList == s'.data.toList) := by
  have : (s == s') = (s.data == s'.data) := rfl
  rw [this, Array.beq_toList]

theorem sameNow_spec {ι : Inj} {d : TypeDesc} {q : LK} (hd : CellKind q d) {x y : AVal} {X Y : Value} (h1 : VRel ι x X) (h2 : VRel ι y Y) {b : Bool} (h : keyEq (.one q) x y = some b) (hi : ∀ k, d = .int k → True) : Instr.sameNow d X Y = some b := by
  cases hd <;> simp only [keyEq] at h <;> try (cases h; done)
  · cases h1 <;> cases h2 <;> try (simp [eq1] at h; done)
    simpa [eq1, Instr.sameNow] using h
  · cases h1 <;> cases h2 <;> try (simp [eq1] at h; done)
    simp only [eq1] at h
    split at h
    · rename_i e
      subst e
      simp only [Option.some.injEq] at h
      subst h
      simp only [Instr.sameNow, if_pos rfl]
      rfl
    · cases h
  · cases h1 <;> cases h2 <;> try (simp [eq1] at h; done)
    rename_i l s hl l' s' hl'
    subst hl hl'
    simp only [eq1, Option.some.injEq] at h
    subst h
    simp only [Instr.sameNow, Option.some.injEq]
    rw [bytesEq_spec]
    rw [ba_beq]

theorem findNow_spec {ι : Inj} {d : TypeDesc} {q : LK} (hd : CellKind q d) {k : AVal} {K : Value} (hk : VRel ι k K) {es : List (AVal × AVal)} {es' : List MapEntry} (h : ERel ι es es') :
    ∀ (i : Nat) (r : Option Nat), findIx (.one q) k es = some r → Instr.findNow d K es' i = some (match r with | none => none | some j => some (i + j, ((es'[j]?).map (·.val)).getD default)) := by
  induction h with
  | nil => intro i r hr; simp [findIx] at hr; subst hr; rfl
  | cons k0 v0 e0 es es' hk0 hv0 hes ih =>
    intro i r hr
    simp only [findIx] at hr
    simp only [Instr.findNow]
    split at hr
    · rename_i he
      injection hr with hr; subst hr
      rw [sameNow_spec hd hk hk0 he (fun _ _ => trivial)]
      simp
    · rename_i he
      rw [sameNow_spec hd hk hk0 he (fun _ _ => trivial)]
      dsimp only
      split at hr <;> first | (cases hr; done) | skip
      · rename_i j hj
        injection hr with hr; subst hr
        rw [ih (i + 1) (some j) hj]
        simp [show i + 1 + j = i + (j + 1) from by omega]
      · rename_i hj
        injection hr with hr; subst hr
        rw [ih (i + 1) none hj]
    · cases hr

theorem trKT_und {t : TypeId} {q : KT} (hq : trKT P t = some q) : ∃ d, P.underlying t = some d := by
  obtain ⟨d, hd, _⟩ := trKT_spec hq
  exact ⟨d, hd⟩
theorem findKey_spec {ι : Inj} {w : World} {t : TypeId} {q : KT} (hq : trKT P t = some q) {k : AVal} {K : Value} (hk : VRel ι k K) {es : List (AVal × AVal)} {es' : List MapEntry} (h : ERel ι es es')
    {r : Option Nat} (hr : findIx q k es = some r) : (Instr.findKey t K es').run P w = .ok (match r with | none => none | some j => some (j, ((es'[j]?).map (·.val)).getD default)) w := by
  obtain ⟨d, hd, hcase⟩ := trKT_spec hq
  unfold Instr.findKey
  simp only [Sem.run_bind, run_underlying hd, Result.andThen_ok]
  rcases hcase with ⟨q', rfl, hk'⟩ | ⟨fs, ks, rfl, rfl, _, _⟩
  · rw [findNow_spec hk' hk h 0 r hr]
    cases r <;> simp
  · cases h with
    | nil =>
      simp [findIx] at hr; subst hr
      rfl
    | cons k0 v0 e0 es es' hk0 hv0 hes =>
      have : Instr.findNow (.struct fs) K (e0 :: es') 0 = none := by
        simp only [Instr.findNow]
        have : Instr.sameNow (.struct fs) K e0.key = none := by
          unfold Instr.sameNow
          split <;> first | rfl | contradiction
        rw [this]
      rw [this]
      dsimp only
      rw [findAsking_spec hq hk (.cons k0 v0 e0 es es' hk0 hv0 hes) 0 r hr]
      cases r <;> simp

theorem checkKey_ok {ι : Inj} {w : World} {em : Bool} {t : TypeId} {q : KT} (hq : trKT P t = some q) {k : AVal} {K : Value} (hk : VRel ι k K) (hok : keyOk q k = true) : (Instr.checkKey em 10000 t K).run P w = .ok () w := by
  obtain ⟨d, hd, hcase⟩ := trKT_spec hq
  rcases hcase with ⟨q', rfl, hk'⟩ | ⟨fs, ks, rfl, rfl, hks, _⟩
  · refine run_checkKey_plain (m := 9999) hd ?_ em K
    cases hk' <;> first | exact .inl rfl | exact .inr (.inl ⟨_, rfl⟩) | exact .inr (.inr rfl) | (cases k <;> simp [keyOk] at hok)
  · cases k <;> simp only [keyOk] at hok <;> try (cases hok; done)
    cases hk
    rename_i xs xs' hx
    exact ((checkKey_spec 6 t ks hks 9994 _ hd xs xs' hx (Nat.le_of_ble_eq_true hok)).1 rfl)

theorem eqs_kinds {P : Program} : ∀ (d : Nat) (t : TypeId) (ks : List LK), trLKs P d t = some ks → ∀ k ∈ ks, k = .bool ∨ k = .int ∨ k = .str := by
  intro d
  induction d with
  | zero => intro t ks h; simp [trLKs] at h
  | succ d ih =>
    intro t ks h
    unfold trLKs at h
    split at h
    · injection h with h; subst h; simp
    · injection h with h; subst h; simp
    · injection h with h; subst h; simp
    · split at h
      · cases h
      · have key : ∀ (l : List Field) (off : Nat) (ks : List LK), trLKgo P (trLKs P d) off l = some ks → ∀ k ∈ ks, k = .bool ∨ k = .int ∨ k = .str := by
          intro l
          induction l with
          | nil => intro off ks h; simp [trLKgo] at h; subst h; simp
          | cons f l ihl =>
            intro off ks h
            simp only [trLKgo] at h
            split at h <;> try (cases h; done)
            split at h <;> try (cases h; done)
            rename_i k1 i hk1 hi
            split at h <;> try (cases h; done)
            split at h <;> try (cases h; done)
            rename_i r hr
            injection h with h
            subst h
            intro k hk
            rcases List.mem_append.1 hk with hk | hk
            · exact ih _ _ hk1 k hk
            · exact ihl _ _ hr k hk
        exact key _ _ _ h
    · cases h

theorem sameBits_one {ι : Inj} {q : LK} (hq : q = .bool ∨ q = .int ∨ q = .str) {x y : AVal} {X Y : Value} (h1 : VRel ι x X) (h2 : VRel ι y Y) (h : eq1 q x y = some true) (m : Nat) : Instr.sameBits m Y X = true := by
  rcases hq with rfl | rfl | rfl
  · cases h1 <;> cases h2 <;> try (simp [eq1] at h; done)
    simp [eq1] at h; subst h; simp [Instr.sameBits]
  · cases h1 <;> cases h2 <;> try (simp [eq1] at h; done)
    simp [eq1] at h
    obtain ⟨rfl, rfl⟩ := h
    simp [Instr.sameBits]
  · cases h1 <;> cases h2 <;> try (simp [eq1] at h; done)
    rename_i l s hl l' s' hl'
    simp only [eq1, Option.some.injEq] at h
    subst hl hl'
    rw [bytesEq_spec] at h
    have h' : s.data.toList = s'.data.toList := eq_of_beq h
    have : s = s' := by
      cases s; cases s'
      simp at h'
      cases h'
      rfl
    subst this
    simp [Instr.sameBits, ba_beq]

theorem sameBits_all {ι : Inj} (m : Nat) : ∀ (ks : List LK), (∀ k ∈ ks, k = .bool ∨ k = .int ∨ k = .str) → ∀ {xs ys : List AVal} {xs' ys' : List Value}, VsRel ι xs xs' → VsRel ι ys ys' → eqs ks xs ys = some true →
    ys'.length = xs'.length ∧ ((ys'.zip xs').all fun (x, y) => Instr.sameBits m x y) = true := by
  intro ks
  induction ks with
  | nil =>
    intro _ xs ys xs' ys' hx hy he
    cases hx <;> cases hy <;> try (simp [eqs] at he; done)
    exact ⟨rfl, rfl⟩
  | cons k ks ih =>
    intro hk xs ys xs' ys' hx hy he
    cases hx <;> cases hy <;> try (simp [eqs] at he; done)
    rename_i a a' as as' ha has b b' bs bs' hb hbs
    simp only [eqs] at he
    split at he
    · rename_i h1
      obtain ⟨i1, i2⟩ := ih (fun k hk' => hk k (by simp [hk'])) has hbs he
      refine ⟨by simp [i1], ?_⟩
      simp only [List.zip_cons_cons, List.all_cons, Bool.and_eq_true]
      exact ⟨sameBits_one (hk k (by simp)) ha hb h1 m, i2⟩
    · cases he
    · cases he

theorem keyThatStays_ok {ι : Inj} {w : World} {t : TypeId} {q : KT} (hq : trKT P t = some q) {x y : AVal} {X Y : Value} (h1 : VRel ι x X) (h2 : VRel ι y Y) (h : keyEq q x y = some true) : (Instr.keyThatStays Y X).run P w = .ok X w := by
  have key : Instr.sameBits 10000 Y X = true := by
    obtain ⟨d, hd, hcase⟩ := trKT_spec hq
    rcases hcase with ⟨q', rfl, hk'⟩ | ⟨fs, ks, rfl, rfl, hks, _⟩
    · cases hk' <;> simp only [keyEq] at h <;> try (cases h; done)
      · exact sameBits_one (.inl rfl) h1 h2 h _
      · exact sameBits_one (.inr (.inl rfl)) h1 h2 h _
      · exact sameBits_one (.inr (.inr rfl)) h1 h2 h _
    · have h := keyEq_aeq h
      cases h1 <;> try (simp [aeq] at h; done)
      cases h2 <;> try (simp [aeq] at h; done)
      rename_i xs xs' hx ys ys' hy _
      simp only [aeq] at h
      obtain ⟨i1, i2⟩ := sameBits_all 9999 ks (eqs_kinds 6 t ks hks) hx hy h
      unfold Instr.sameBits
      simp [i1, i2]
  unfold Instr.keyThatStays
  simp [key]

theorem run_setObj {w : World} {r : Nat} {es : Array MapEntry} {c : Nat} (o : Obj) (h : w.heap[r]? = some (.map es c)) : (setObj r o).run P w = .ok () { w with heap := w.heap.set! r o } := by
  simp [setObj, Sem.run, h]

theorem Rel.putMap {CR : CodeRel} {F : Nat → Option Obj} {w0 : World} {ι : Inj} {H : AH} {w : World} (R : Rel CR F w0 ι H w) {b g N : Nat} {es es2 : List (AVal × AVal)} {es' : Array MapEntry} {c : Nat} (hg : H.get b = some (.map es)) (hi : ι b = some (g, 0, N))
    (he : ERel ι es2 es'.toList) : Rel CR F w0 ι (H.set b (.map es2)) { w with heap := w.heap.set! g (.map es' c) } := by
  obtain ⟨g', off, N', x, e1, e2, e3⟩ := R.blk b _ hg rfl
  rw [hi] at e1
  injection e1 with e1
  injection e1 with ea eb
  injection eb with eb ec
  subst ea eb ec
  cases e3 with
  | map _ es0 clock hr =>
    refine R.put (x := .map es' c) hg rfl hi ⟨rfl, rfl, rfl, by simp, fun r hr => ?_⟩ ?_ (fun _ => .map es2 es' c he) (fun _ => rfl)
    · simp [Array.getElem?_setIfInBounds, Ne.symm hr]
    · simp [heap_lt e2]
end

section ops
variable {P : Program} {o : Oper}

theorem ok_lk {t kt e : TypeId} {x y : Operand} {ok : Bool} {a b : AO} {q : KT} {z : AVal} (ho : o.op = .lookup t x y ok) (hd : P.underlying t = some (.map kt e)) (hq : trKT P kt = some q) (hz : trZ P e = some z)
    (hx : trO x = some a) (hy : trO y = some b) : OpOk P o (.lk q z ok a b) :=
  .same fun CR F w0 ι n ρ H w act v H' R RR he => by
    have h1 := trO_rel RR hx
    have h2 := trO_rel RR hy
    obtain ⟨i, zv, hi, hzv, hzr⟩ := trZ_spec hz
    simp only [evOp] at he
    split at he
    · cases he
    rename_i hok
    have hck : ∀ em, (Instr.checkKey em 10000 kt (act.eval y)).run P w = .ok () w := fun em => checkKey_ok hq h2 (by simpa using hok)
    have hexec : (execOp act.eval o) = (do pure (Next.value (← Instr.lookup t (act.eval x) (act.eval y) ok))) := by simp only [execOp, ho]
    rw [hexec]
    generalize hX : act.eval x = X at h1
    generalize hY : act.eval y = Y at h2 hck
    generalize a.ev ρ = A at h1 he
    generalize b.ev ρ = B at h2 he hok
    have fin : ∀ (u : AVal) (U : Value) (c : Bool), VRel ι u U → VRel ι (if ok then .tup [u, .bool c] else u) (if ok then .tuple #[U, .bool c] else U) := by
      intro u U c hu
      cases ok
      · exact hu
      · exact .tup _ [U, .bool c] (.cons _ _ _ _ hu (.cons _ _ _ _ (.bool c) .nil))
    cases h1 <;> try (simp at he; done)
    · simp only [Option.some.injEq, Prod.mk.injEq] at he
      obtain ⟨rfl, rfl⟩ := he
      refine ⟨rfl, _, run_v ?_, fin z zv false (hzr ι)⟩
      unfold Instr.lookup
      simp only [Sem.run_bind, run_underlying hd, Result.andThen_ok, Sem.run_pure, hck]
      obtain ⟨dk, hdk⟩ := trKT_und hq
      simp [Instr.findKey, Instr.findNow, run_underlying hdk, rZero w hi hzv]
    · rename_i r g N hb
      dsimp only at he
      split at he
      · rename_i es hg
        obtain ⟨es', c, e1, e2⟩ := R.mapAt hg hb
        have hrun : ∀ r', findIx q B es = some r' → (Instr.lookup t (.map (some g)) Y ok).run P w = .ok (match r' with
            | none => if ok then .tuple #[zv, .bool false] else zv
            | some j => if ok then .tuple #[((es'[j]?).map (·.val)).getD default, .bool true] else ((es'[j]?).map (·.val)).getD default) w := by
          intro r' hr'
          unfold Instr.lookup
          simp only [Sem.run_bind, run_underlying hd, Result.andThen_ok, Sem.run_pure, hck, run_getObj_map e1, findKey_spec hq h2 e2 hr']
          cases r' with
          | none => simp [rZero w hi hzv]
          | some j => simp
        split at he
        · rename_i u hu
          rcases findIx_findK hu with ⟨h3, _⟩ | ⟨j, e, h3, h4, h5⟩
          · cases h3
          · injection h5 with h5
            subst h5
            obtain ⟨e', h6, h7, h8⟩ := e2.get h4
            simp only [Option.some.injEq, Prod.mk.injEq] at he
            obtain ⟨rfl, rfl⟩ := he
            refine ⟨rfl, _, run_v (hrun _ h3), fin _ _ true ?_⟩
            rw [Array.getElem?_toList] at h6
            simp [h6]
            exact h8
        · rename_i hu
          rcases findIx_findK hu with ⟨_, h3⟩ | ⟨j, e, h3, h4, h5⟩
          · simp only [Option.some.injEq, Prod.mk.injEq] at he
            obtain ⟨rfl, rfl⟩ := he
            exact ⟨rfl, _, run_v (hrun _ h3), fin z zv false (hzr ι)⟩
          · cases h5
        · cases he
      · cases he

theorem run_mapUpdate {CR : CodeRel} {F : Nat → Option Obj} {w0 : World} {ι : Inj} {H : AH} {w : World} (R : Rel CR F w0 ι H w) {t kt e : TypeId} {q : KT} (hd : P.underlying t = some (.map kt e)) (hq : trKT P kt = some q) {r g N : Nat} (hb : ι r = some (g, 0, N))
    {es es2 : List (AVal × AVal)} (hg : H.get r = some (.map es)) {k v : AVal} {K V : Value} (hk : VRel ι k K) (hv : VRel ι v V) (hok : keyOk q k = true) (hp : putK q k v es = some es2) :
    ∃ w', (Instr.mapUpdate t (.map (some g)) K V).run P w = .ok () w' ∧ Rel CR F w0 ι (H.set r (.map es2)) w' := by
  obtain ⟨es', c, e1, e2⟩ := R.mapAt hg hb
  have hck := checkKey_ok (P := P) (w := w) (em := false) hq hk hok
  unfold Instr.mapUpdate
  simp only [Sem.run_bind, run_underlying hd, Result.andThen_ok, run_getObj_map e1, hck]
  rcases findIx_putK hp with ⟨h1, h2⟩ | ⟨i, e0, h1, h2, h3, h4⟩
  · subst h2
    rw [findKey_spec hq hk e2 h1]
    simp only [Result.andThen_ok]
    rw [run_setObj _ e1]
    refine ⟨_, rfl, R.putMap hg hb ?_⟩
    rw [Array.toList_push]
    exact e2.push hk hv
  · subst h4
    rw [findKey_spec hq hk e2 h1]
    simp only [Result.andThen_ok]
    obtain ⟨e', h5, h6, h7⟩ := e2.get h2
    rw [Array.getElem?_toList] at h5
    simp only [h5, Option.map_some, Option.getD_some, Sem.run_bind, keyThatStays_ok hq hk h6 h3, Result.andThen_ok]
    rw [run_setObj _ e1]
    refine ⟨_, rfl, R.putMap hg hb ?_⟩
    have hlt : i < es'.size := (Array.getElem?_eq_some_iff.1 h5).1
    have : (es'.modify i fun e => { e with key := K, val := V }).toList = es'.toList.set i { e' with key := K, val := V } := by
      have h8 := (Array.getElem?_eq_some_iff.1 h5).2
      rw [Array.toList_modify]
      haveI : Inhabited MapEntry := ⟨e'⟩
      rw [List.modify_eq_set, Array.getElem?_toList, h5]
      rfl
    rw [this]
    exact e2.set hk hv

theorem ok_mu {t kt e : TypeId} {x y z : Operand} {a b c : AO} {q : KT} (ho : o.op = .mapUpdate t x y z ∨ o.op = .insert t x y z) (hd : P.underlying t = some (.map kt e)) (hq : trKT P kt = some q)
    (hx : trO x = some a) (hy : trO y = some b) (hz : trO z = some c) : OpOk P o (.mu q a b c) := by
  intro CR F w0 ι n ρ H w act v H' R RR he
  have h1 := trO_rel RR hx
  have h2 := trO_rel RR hy
  have h3 := trO_rel RR hz
  simp only [evOp] at he
  split at he
  · cases he
  rename_i hok
  have hexec : (execOp act.eval o) = (do Instr.mapUpdate t (act.eval x) (act.eval y) (act.eval z); pure Next.skip) := by rcases ho with ho | ho <;> simp only [execOp, ho]
  rw [hexec]
  generalize hX : act.eval x = X at h1
  generalize a.ev ρ = A at h1 he
  cases h1 <;> try (simp at he; done)
  rename_i r g N hb
  dsimp only at he
  split at he
  · rename_i es hg
    split at he
    · rename_i es2 hp
      simp only [Option.some.injEq, Prod.mk.injEq] at he
      obtain ⟨rfl, rfl⟩ := he
      obtain ⟨w', s1, s2⟩ := run_mapUpdate (P := P) R hd hq hb hg h2 h3 (by simpa using hok) hp
      exact ⟨_, undef, w', ι, run_u s1, .inr ⟨rfl, rfl⟩, .und _, Inj.le.refl _, s2⟩
    · cases he
  · cases he

theorem ok_del {args : Array Operand} {ts : Array TypeId} {t kt e : TypeId} {x y : Operand} {a b : AO} {q : KT} (ho : o.op = .call { callee := .builtin .delete, args := args, argTypes := ts }) (ht : ts[0]? = some t) (hx0 : args[0]? = some x) (hy0 : args[1]? = some y)
    (hd : P.underlying t = some (.map kt e)) (hq : trKT P kt = some q) (hx : trO x = some a) (hy : trO y = some b) : OpOk P o (.del q a b) := by
  intro CR F w0 ι n ρ H w act v H' R RR he
  have h1 := trO_rel RR hx
  have h2 := trO_rel RR hy
  simp only [evOp] at he
  split at he
  · cases he
  rename_i hok
  have hck : ∀ em, (Instr.checkKey em 10000 kt (act.eval y)).run P w = .ok () w := fun em => checkKey_ok hq h2 (by simpa using hok)
  have hx1 : (Array.map act.eval args)[0]? = some (act.eval x) := by simp [hx0]
  have hy1 : (Array.map act.eval args)[1]? = some (act.eval y) := by simp [hy0]
  rw [exec_builtin ho]
  simp only [builtin]
  generalize hX : act.eval x = X at h1
  rw [hX] at hx1
  generalize a.ev ρ = A at h1 he
  cases h1 <;> try (simp at he; done)
  · simp only [Option.some.injEq, Prod.mk.injEq] at he
    obtain ⟨rfl, rfl⟩ := he
    refine ⟨_, .tuple #[], w, ι, run_v ?_, .inl rfl, .und _, Inj.le.refl _, R⟩
    unfold Builtin.delete_
    simp only [ht, hx1, hy1, Sem.run_bind, run_underlying hd, Result.andThen_ok, hck]
    rfl
  · rename_i r g N hb
    dsimp only at he
    split at he
    · rename_i es hg
      split at he
      · rename_i es2 hp
        simp only [Option.some.injEq, Prod.mk.injEq] at he
        obtain ⟨rfl, rfl⟩ := he
        obtain ⟨es', c, e1, e2⟩ := R.mapAt hg hb
        rcases findIx_delK hp with ⟨h3, h4⟩ | ⟨i, e0, h3, h4, h5⟩
        · subst h4
          refine ⟨_, .tuple #[], _, ι, run_v ?_, .inl rfl, .und _, Inj.le.refl _, R.putMap (c := c) hg hb e2⟩
          unfold Builtin.delete_
          simp only [ht, hx1, hy1, Sem.run_bind, run_underlying hd, Result.andThen_ok, hck, run_getObj_map e1, findKey_spec hq h2 e2 h3, run_setObj _ e1]
          rfl
        · subst h5
          refine ⟨_, .tuple #[], _, ι, run_v ?_, .inl rfl, .und _, Inj.le.refl _, R.putMap (c := c) hg hb (es' := es'.eraseIdxIfInBounds i) ?_⟩
          · unfold Builtin.delete_
            simp only [ht, hx1, hy1, Sem.run_bind, run_underlying hd, Result.andThen_ok, hck, run_getObj_map e1, findKey_spec hq h2 e2 h3, run_setObj _ e1]
            rfl
          · have : (es'.eraseIdxIfInBounds i).toList = es'.toList.eraseIdx i := by
              simp [Array.eraseIdxIfInBounds_eq]
              split
              · simp
              · rename_i hh
                rw [List.eraseIdx_of_length_le (by simpa using hh)]
            rw [this]
            exact e2.erase
      · cases he
    · cases he
end ops
end Rst
/- Every translated operation is told by its translation. -/
set_option linter.unusedVariables false
set_option linter.unusedSimpArgs false
namespace Rst
open Go

theorem trZv_spec {P : Program} {t : TypeId} {z : AVal} (h : trZv P t = some z) : trZ P t = some z ∧ z.isVal = true := by
  unfold trZv at h
  split at h
  · rename_i z' hz
    split at h
    · rename_i hv; injection h with h; subst h; exact ⟨hz, hv⟩
    · cases h
  · cases h
theorem notIface_spec {d : TypeDesc} (h : notIface d = true) : ∀ ms, d ≠ .interface ms := by
  intro ms e; subst e; cases h
theorem toList_two {α : Type} {a : Array α} {x y : α} (h : a.toList = [x, y]) : a = #[x, y] := by
  cases a with | mk l => simp at h; subst h; rfl

def AOp.isCall : AOp → Bool
  | .call _ _ => true
  | .panic _ => true
  | _ => false

theorem trCall_ok {P : Program} {o : Oper} {c : Call} (ho : o.op = .call c) {a : AOp} (h : trCall P c = some a) (hc : a.isCall = false) : OpOk P o a := by
  obtain ⟨callee, args, ts⟩ := c
  unfold trCall at h
  dsimp only at h
  split at h
  · split at h <;> try (cases h; done)
    injection h with h; subst h; cases hc
  · cases h
  · split at h <;> try (cases h; done)
    rename_i t x ht hx
    unfold trLen at h
    split at h <;> try (cases h; done)
    all_goals
      rename_i hd hxx
      injection h with h; subst h
      first
      | exact ok_len ho ht hx hd .str hxx
      | exact ok_len ho ht hx hd (.slice _) hxx
      | exact ok_len ho ht hx hd (.map _ _) hxx
      | exact ok_lenArr ho ht hx hd
  · split at h <;> try (cases h; done)
    rename_i t u s x ht hu hargs
    split at h <;> try (cases h; done)
    all_goals
      rename_i hd hdu ha hb
      unfold trApp at h
      split at h <;> try (cases h; done)
      rename_i i z hi hz
      split at h <;> try (cases h; done)
      rename_i hs
      injection h with h; subst h
      obtain ⟨hz1, hz2⟩ := trZv_spec hz
      exact ok_app ho (toList_two hargs) ht hu hd hdu (fun k e => by cases e) hi hs.1 hs.2.1 hz1 hz2 hs.2.2 ha hb
  · split at h <;> try (cases h; done)
    rename_i t x ht hx
    split at h <;> try (cases h; done)
    rename_i hd ha
    split at h <;> try (cases h; done)
    rename_i z hz
    injection h with h; subst h
    obtain ⟨hz1, hz2⟩ := trZv_spec hz
    obtain ⟨i, _, hi, _⟩ := trZ_spec hz1
    exact ok_clr (i := i) ho ht hx hd hz1 hz2 ha
  · split at h <;> try (cases h; done)
    rename_i t x y ht hx hy
    split at h <;> try (cases h; done)
    rename_i hd ha hb
    split at h <;> try (cases h; done)
    rename_i i hi
    injection h with h; subst h
    exact ok_cpy ho ht hx hy hd hi ha hb
  · split at h <;> try (cases h; done)
    rename_i t x y ht hx hy
    split at h <;> try (cases h; done)
    rename_i hd ha hb
    split at h <;> try (cases h; done)
    rename_i q hq
    injection h with h; subst h
    exact ok_del ho ht hx hy hd hq ha hb
  · split at h <;> try (cases h; done)
    rename_i l hl
    injection h with h; subst h
    exact ok_min ho hl
  · split at h <;> try (cases h; done)
    rename_i l hl
    injection h with h; subst h
    exact ok_max ho hl
  · cases h

theorem trOp_ok {P : Program} {o : Oper} {a : AOp} (h : trOp P o.op = some a) (hc : a.isCall = false) : OpOk P o a := by
  cases ho : o.op <;> rw [ho] at h <;> unfold trOp at h <;> (try dsimp only at h)
  case call c => exact trCall_ok ho h hc
  case binOp op t x y u =>
    unfold trBin at h
    split at h <;> try (cases h; done)
    rename_i ha hb
    split at h
    · injection h with h; subst h; exact ok_bin ho ha hb
    · injection h with h; subst h; exact ok_bin ho ha hb
    · split at h <;> try (cases h; done)
      rename_i q hq
      split at h <;> try (cases h; done)
      rename_i hn
      split at h
      · rename_i hx
        have hms : ∃ ms, P.underlying t = some (.interface ms) := by
          obtain ⟨d, hd, hcase⟩ := trKT_spec hq
          rcases hcase with ⟨k, hk, hck⟩ | ⟨fs, ks, _, hk, _⟩
          · rw [hx.1] at hk
            injection hk with hk
            subst hk
            cases hck
            exact ⟨_, hd⟩
          · rw [hx.1] at hk; cases hk
        obtain ⟨ms, hms⟩ := hms
        split at h <;> try (cases h; done)
        · injection h with h; subst h; exact ok_eqx (ne := false) ho rfl hms ha hb
        · injection h with h; subst h; exact ok_eqx (ne := true) ho rfl hms ha hb
      rename_i hi
      have h1 : q = .one .iface → isConstNil x || isConstNil y := by
        intro e
        cases hh : (isConstNil x || isConstNil y)
        · exact absurd ⟨e, hh⟩ hi
        · rfl
      have h2 : q ≠ .one .int ∧ q ≠ .one .str := ⟨fun e => hn (.inl e), fun e => hn (.inr e)⟩
      split at h <;> try (cases h; done)
      · injection h with h; subst h; exact ok_eqv (ne := false) ho rfl hq h1 h2 ha hb
      · injection h with h; subst h; exact ok_eqv (ne := true) ho rfl hq h1 h2 ha hb
  case move x => split at h <;> try (cases h; done)
                 rename_i ha; injection h with h; subst h; exact ok_mv (.inl ho) ha
  case assign x => split at h <;> try (cases h; done)
                   rename_i ha; injection h with h; subst h; exact ok_mv (.inr ho) ha
  case pick x y z => split at h <;> try (cases h; done)
                     rename_i ha hb hcc; injection h with h; subst h; exact ok_pick ho ha hb hcc
  case alloc e => split at h <;> try (cases h; done)
                  rename_i z hz; injection h with h; subst h
                  exact ok_alloc ho (trZv_spec hz).1 (trZv_spec hz).2
  case box e x => split at h <;> try (cases h; done)
                  rename_i ha; injection h with h; subst h; exact ok_box ho ha
  case build t parts =>
    split at h <;> try (cases h; done)
    · rename_i hd hz
      split at h <;> try (cases h; done)
      rename_i hps
      split at h <;> try (cases h; done)
      rename_i hl
      injection h with h; subst h
      exact ok_build ho hd (trZv_spec hz).1 (trZv_spec hz).2 hps hl
    · rename_i hd hz
      split at h <;> try (cases h; done)
      rename_i hi
      split at h <;> try (cases h; done)
      rename_i hl
      injection h with h; subst h
      exact ok_buildArr ho hd (trZv_spec hz).1 (trZv_spec hz).2 hi hl
  case buildSlice t n parts =>
    split at h <;> try (cases h; done)
    rename_i hd
    split at h <;> try (cases h; done)
    rename_i hi
    split at h <;> try (cases h; done)
    rename_i hlim
    split at h <;> try (cases h; done)
    rename_i hl
    split at h
    · rename_i h0
      injection h with h; subst h
      exact ok_buildS0 ho hd hi h0 hl
    · rename_i h0
      split at h <;> try (cases h; done)
      rename_i hz
      split at h <;> try (cases h; done)
      rename_i hsz
      injection h with h; subst h
      exact ok_buildS ho hd hi hlim h0 (trZv_spec hz).1 (trZv_spec hz).2 hsz hl
  case load t x => split at h <;> try (cases h; done)
                   rename_i hN ha; injection h with h; subst h; exact ok_load ho hN ha
  case store t x y => split at h <;> try (cases h; done)
                      rename_i hn ha hb; injection h with h; subst h; exact ok_store ho hn ha hb
  case nilCheck x => split at h <;> try (cases h; done)
                     rename_i ha; injection h with h; subst h; exact ok_nilc ho ha
  case unOp op t x => split at h <;> try (cases h; done)
                      rename_i ha; injection h with h; subst h; exact ok_un ho ha
  case convert src dst x =>
    split at h <;> try (cases h; done)
    · rename_i hs hd ha; injection h with h; subst h; exact ok_convI ho hs hd ha
    · rename_i hs hd ha; injection h with h; subst h; exact ok_convSS ho hs hd ha
    · rename_i hs hd ha
      split at h <;> try (cases h; done)
      rename_i he; injection h with h; subst h; exact ok_convSB ho hs hd he ha
    · rename_i hs hd ha
      split at h <;> try (cases h; done)
      rename_i he; injection h with h; subst h; exact ok_convBS ho hs he hd ha
  case makeInterface t x =>
    split at h <;> try (cases h; done)
    rename_i hd ha
    split at h <;> try (cases h; done)
    rename_i hn
    injection h with h; subst h; exact ok_mkI ho hd (notIface_spec hn) ha
  case makeFunc fn first cs =>
    cases fn <;> simp only [trMkF] at h <;> try (cases h; done)
    split at h <;> try (cases h; done)
    rename_i h0
    split at h <;> try (cases h; done)
    rename_i hl
    injection h with h; subst h; exact ok_mkF ho h0 hl
  case makeMap t r =>
    cases r <;> simp only [trMkM] at h <;> try (cases h; done)
    injection h with h; subst h; exact ok_mkM ho
  case makeSlice t x y =>
    split at h <;> try (cases h; done)
    rename_i hd ha hb
    split at h <;> try (cases h; done)
    rename_i hi hz
    split at h <;> try (cases h; done)
    rename_i hs
    injection h with h; subst h
    exact ok_mkS ho hd hi (trZv_spec hz).1 (trZv_spec hz).2 hs.1 hs.2.1 hs.2.2 ha hb
  case slice t x lo hi mx =>
    split at h <;> try (cases h; done)
    · rename_i hd ha h1 h2 h3; injection h with h; subst h; exact ok_slStr ho hd ha h1 h2 h3
    · rename_i hd ha h1 h2 h3
      split at h <;> try (cases h; done)
      rename_i hinf
      split at h <;> try (cases h; done)
      rename_i hm
      injection h with h; subst h; exact ok_sl ho hd hinf ha h1 h2 h3 hm
    · rename_i hd ha h1 h2 h3
      split at h <;> try (cases h; done)
      rename_i hinf
      split at h <;> try (cases h; done)
      rename_i hm
      injection h with h; subst h; exact ok_slArr ho hd hinf ha h1 h2 h3 hm
  case fieldAddr t x k =>
    split at h <;> try (cases h; done)
    rename_i hd ha
    split at h <;> try (cases h; done)
    rename_i hf
    split at h <;> try (cases h; done)
    rename_i hi
    split at h <;> try (cases h; done)
    rename_i hz
    injection h with h; subst h; exact ok_fa ho hd hf hi hz ha
  case field t x k =>
    split at h <;> try (cases h; done)
    rename_i hd ha
    split at h <;> try (cases h; done)
    rename_i hf
    split at h <;> try (cases h; done)
    rename_i hN
    injection h with h; subst h; exact ok_fld ho hd hf hN ha
  case indexAddr t x i =>
    split at h <;> try (cases h; done)
    · rename_i hd ha hb
      split at h <;> try (cases h; done)
      rename_i hi
      injection h with h; subst h; exact ok_ia ho hd hi ha hb
    · rename_i hd ha hb
      split at h <;> try (cases h; done)
      rename_i hi
      injection h with h; subst h; exact ok_iaArr ho hd hi ha hb
  case index t x i =>
    split at h <;> try (cases h; done)
    · rename_i hd ha hb; injection h with h; subst h; exact ok_idxStr ho hd ha hb
    · rename_i hd ha hb
      split at h <;> try (cases h; done)
      rename_i hi hd'
      injection h with h; subst h; exact ok_idxArr ho hd hi hd' ha hb
  case lookup t m k ok =>
    split at h <;> try (cases h; done)
    rename_i hd ha hb
    split at h <;> try (cases h; done)
    rename_i hq hz
    injection h with h; subst h; exact ok_lk ho hd hq hz ha hb
  case mapUpdate t m k v =>
    split at h <;> try (cases h; done)
    rename_i hd ha hb hcc
    split at h <;> try (cases h; done)
    rename_i hq
    injection h with h; subst h; exact ok_mu (.inl ho) hd hq ha hb hcc
  case insert t m k v =>
    split at h <;> try (cases h; done)
    rename_i hd ha hb hcc
    split at h <;> try (cases h; done)
    rename_i hq
    injection h with h; subst h; exact ok_mu (.inr ho) hd hq ha hb hcc
  case typeAssert x t u ok =>
    split at h <;> try (cases h; done)
    rename_i hd ha hz
    split at h <;> try (cases h; done)
    rename_i hn
    injection h with h; subst h; exact ok_ta ho hd (notIface_spec hn) hz ha
  case extract x i => split at h <;> try (cases h; done)
                      rename_i ha; injection h with h; subst h; exact ok_ext ho ha
  case panic x => split at h <;> try (cases h; done)
                  injection h with h; subst h; cases hc
  all_goals first | (cases h; done) | (simp at h)
end Rst
/- The translation of code, and the machine's steps on a frame that may be one of a round. -/
set_option linter.unusedVariables false
set_option linter.unusedSimpArgs false
namespace Rst
open Go

/-! ### The translation of code -/
def trGuard (ops : Array Oper) : Option (Nat × Bool) → Option (Option (Nat × Bool))
  | none => some none
  | some (j, b) => match (ops[j]?).bind (·.dst) with
    | some t => some (some (t, b))
    | none => none
def okDst (N : Nat) : Option Nat → Bool
  | none => true
  | some d => Nat.blt d N
def trOper (P : Program) (N : Nat) (ops : Array Oper) (o : Oper) : Option AOper :=
  match trOp P o.op, trGuard ops o.guard with
  | some a, some g => if okDst N o.dst = true then some ⟨o.dst, a, g⟩ else none
  | _, _ => none
abbrev Hint := Nat → List (List (Nat × Bool))
def pickOp (l : List AOper) : Nat × Bool → Option AOper
  | (i, true) => l[i]?
  | (i, false) => match l[i]? with
    | some ⟨some d, op, g⟩ => some ⟨none, .again op d, g⟩
    | _ => none
def trRes (P : Program) : ResultVar → Option ARes
  | .tmp t => some (.tmp t)
  | .cell a t => match trN P t with
    | some n => some (.cell a n)
    | none => none

/-! ### The machine's steps -/
def frOn (b : Frame) (a : Act) (todo : List Item) : Frame :=
  { fn := b.fn, tmps := a.tmps, todo, defers := a.defers, mode := .run, kind := b.kind, roundOf := b.roundOf }
theorem frOn_eval (b : Frame) (a : Act) (todo : List Item) : (frOn b a todo).eval = a.eval := by
  funext x; cases x <;> rfl

section moves
variable {P : Program} {b : Frame} {a : Act} {k : List Item} {cs : List Frame} {w : World}
theorem st_skip : step P (lone (frOn b a (.code .skip :: k)) cs w) = .next (lone (frOn b a k) cs w) := step_lone_go (by simp [stepG, stepG.exec, frOn])
theorem st_label {l : Nat} : step P (lone (frOn b a (.code (.label l) :: k)) cs w) = .next (lone (frOn b a k) cs w) := step_lone_go (by simp [stepG, stepG.exec, frOn])
theorem st_inBlock {id : Nat} : step P (lone (frOn b a (.inBlock id :: k)) cs w) = .next (lone (frOn b a k) cs w) := step_lone_go (by simp [stepG, stepG.exec, frOn])
theorem st_inScope {c : Code} : step P (lone (frOn b a (.inScope c :: k)) cs w) = .next (lone (frOn b a k) cs w) := step_lone_go (by simp [stepG, stepG.exec, frOn])
theorem st_seq {x y : Code} : step P (lone (frOn b a (.code (.seq x y) :: k)) cs w) = .next (lone (frOn b a (.code x :: .code y :: k)) cs w) := step_lone_go (by simp [stepG, stepG.exec, frOn])
theorem st_cond {c : Operand} {x y : Code} {t : Bool} (h : a.eval c = .bool t) :
    step P (lone (frOn b a (.code (.cond c x y) :: k)) cs w) = .next (lone (frOn b a (.code (if t then x else y) :: k)) cs w) :=
  step_lone_go (by
    have := congrFun (frOn_eval b a (.code (.cond c x y) :: k)) c
    simp only [frOn] at this
    simp [stepG, stepG.exec, frOn, this, h])
theorem st_block {id : Nat} {c : Code} : step P (lone (frOn b a (.code (.block id c) :: k)) cs w) = .next (lone (frOn b a (.code c :: .inBlock id :: k)) cs w) := step_lone_go (by simp [stepG, stepG.exec, frOn])
theorem st_loop {c : Code} : step P (lone (frOn b a (.code (.loop c) :: k)) cs w) = .next (lone (frOn b a (.code c :: .inLoop c :: k)) cs w) := step_lone_go (by simp [stepG, stepG.exec, frOn])
theorem st_inLoop {c : Code} : step P (lone (frOn b a (.inLoop c :: k)) cs w) = .next (lone (frOn b a (.code c :: .inLoop c :: k)) cs w) := step_lone_go (by simp [stepG, stepG.exec, frOn])
theorem st_scope {c : Code} : step P (lone (frOn b a (.code (.scope c) :: k)) cs w) = .next (lone (frOn b a (.code c :: .inScope c :: k)) cs w) := step_lone_go (by simp [stepG, stepG.exec, frOn])
theorem st_exit {id : Nat} {k' : List Item} (h : exitTo id k = some k') : step P (lone (frOn b a (.code (.exit id) :: k)) cs w) = .next (lone (frOn b a k') cs w) :=
  step_lone_go (by simp [stepG, stepG.exec, frOn, h])
theorem st_goto {l : Nat} {k' : List Item} (h : gotoIn l k = some k') : step P (lone (frOn b a (.code (.goto l) :: k)) cs w) = .next (lone (frOn b a k') cs w) :=
  step_lone_go (by simp [stepG, stepG.exec, frOn, h])
theorem st_ret (hr : b.roundOf = none) : step P (lone (frOn b a (.code .ret :: k)) cs w) = .next (lone { frOn b a (.code .ret :: k) with mode := .returning } cs w) :=
  step_lone_go (by simp [stepG, stepG.exec, frOn, hr])
theorem st_end (hr : b.roundOf = none) : step P (lone (frOn b a []) cs w) = .next (lone { frOn b a [] with mode := .returning } cs w) :=
  step_lone_go (by simp [stepG, stepG.exec, frOn, hr])
variable {ops : Array Oper}
theorem st_region {id : Nat} : step P (lone (frOn b a (.code (.region id ops false) :: k)) cs w) = .next (lone (frOn b a (.inRegion ops (List.range ops.size) :: k)) cs w) :=
  step_lone_go (by simp [stepG, stepG.exec, frOn])
theorem st_region_draw {id : Nat} :
    step P (lone (frOn b a (.code (.region id ops true) :: k)) cs w) =
      .next (lone (frOn b a (.inRegion ops (Region.schedule (P.follows .mixedOrders) ops (w.tape w.drawn (.order b.fn id))) :: k)) cs w.drew) := by
  have : w.drew = { w with drawn := w.drawn + 1 } := by simp
  rw [this]
  exact step_lone_go (by simp [stepG, stepG.exec, frOn, choose, Sem.run, Question.forced, Question.cut])
theorem st_region_end : step P (lone (frOn b a (.inRegion ops [] :: k)) cs w) = .next (lone (frOn b a k) cs w) := step_lone_go (by simp [stepG, stepG.exec, frOn])
theorem fr_finish (b : Frame) (a : Act) (ops : Array Oper) (i : Nat) (rest : List Nat) (k : List Item) (v : Value) :
    (frOn b a (.inRegion ops (i :: rest) :: k)).finish v = frOn b (a.put ((ops[i]?).bind (·.dst)) v) (.inRegion ops rest :: k) := by
  cases h : (ops[i]?).bind (·.dst) <;> simp [Frame.finish, frOn, Act.put, h]
theorem st_op_skip {i : Nat} {rest : List Nat} (h : ((ops[i]?).map (Region.wanted · (yielded ops a.tmps))).getD false = false) :
    step P (lone (frOn b a (.inRegion ops (i :: rest) :: k)) cs w) =
      .next (lone (frOn b (a.put ((ops[i]?).bind (·.dst)) undef) (.inRegion ops rest :: k)) cs w) := by
  rw [← fr_finish]
  exact step_lone_go (by
    have h' := h
    simp only [frOn] at *
    simp [stepG, stepG.exec, h'])
theorem stG_op {i : Nat} {rest : List Nat} {o : Oper} (ho : ops[i]? = some o) (hw : Region.wanted o (yielded ops a.tmps) = true) (hd : ∀ c, o.op ≠ .defer c) :
    stepG P true { frame := frOn b a (.inRegion ops (i :: rest) :: k), callers := cs, status := .running, dying := none } w =
      stepG.apply P true (frOn b a (.inRegion ops (i :: rest) :: k)) cs none (execOp a.eval o) w := by
  have he := frOn_eval b a (.inRegion ops (i :: rest) :: k)
  simp only [frOn] at he
  simp only [stepG, stepG.exec, stepG.oper, Frame.oper?, frOn, ho, hw, he, Option.map_some, Option.getD_some, if_true]
  split
  · rename_i l c hr hc
    exact absurd hc (hd c)
  · rfl
theorem st_op_value {i : Nat} {rest : List Nat} {o : Oper} (ho : ops[i]? = some o) (hw : Region.wanted o (yielded ops a.tmps) = true) (hd : ∀ c, o.op ≠ .defer c) {nx : Next} {v : Value} {w' : World}
    (h : (execOp a.eval o).run P w = .ok nx w') (hn : nx = .value v ∨ nx = .skip ∧ v = undef) :
    step P (lone (frOn b a (.inRegion ops (i :: rest) :: k)) cs w) = .next (lone (frOn b (a.put o.dst v) (.inRegion ops rest :: k)) cs w') := by
  have hf : (frOn b a (.inRegion ops (i :: rest) :: k)).finish v = frOn b (a.put o.dst v) (.inRegion ops rest :: k) := by
    rw [fr_finish, ho]; rfl
  rw [← hf]
  refine step_lone_go ?_
  rw [stG_op ho hw hd]
  rcases hn with rfl | ⟨rfl, rfl⟩ <;> simp [stepG.apply, h]
theorem st_op_enter {i : Nat} {rest : List Nat} {o : Oper} (ho : ops[i]? = some o) (hw : Region.wanted o (yielded ops a.tmps) = true) (hd : ∀ c, o.op ≠ .defer c) {f : Nat} {args : Array Value} {w' : World}
    (h : (execOp a.eval o).run P w = .ok (.enter f args) w') :
    step P (lone (frOn b a (.inRegion ops (i :: rest) :: k)) cs w) = .next (lone (Frame.enter P f args .normal) (frOn b a (.inRegion ops (i :: rest) :: k) :: cs) w') := by
  refine step_lone_go ?_
  rw [stG_op ho hw hd]
  simp [stepG.apply, h, frOn]
theorem st_op_round {i : Nat} {rest : List Nat} {o : Oper} (ho : ops[i]? = some o) (hw : Region.wanted o (yielded ops a.tmps) = true) (hd : ∀ c, o.op ≠ .defer c) {l f : Nat} {tmps : Array Value} {x y : Code} {w' : World}
    (h : (execOp a.eval o).run P w = .ok (.round l f tmps x y) w') :
    step P (lone (frOn b a (.inRegion ops (i :: rest) :: k)) cs w) = .next (lone (Frame.round l f tmps x y .normal) (frOn b a (.inRegion ops (i :: rest) :: k) :: cs) w') := by
  refine step_lone_go ?_
  rw [stG_op ho hw hd]
  simp [stepG.apply, h, frOn]
theorem st_op_panic {i : Nat} {rest : List Nat} {o : Oper} (ho : ops[i]? = some o) (hw : Region.wanted o (yielded ops a.tmps) = true) (hd : ∀ c, o.op ≠ .defer c) {v : Value} {w' : World}
    (h : (execOp a.eval o).run P w = .halt (.panic v) w') :
    step P (lone (frOn b a (.inRegion ops (i :: rest) :: k)) cs w) = .next (lone ((frOn b a (.inRegion ops (i :: rest) :: k)).raise [{ v, recovered := false }]) cs w') := by
  refine step_lone_go ?_
  rw [stG_op ho hw hd]
  simp [stepG.apply, h]
end moves

/-! ### Guards, slots -/
theorem wants_rel {ι : Inj} {N : Nat} {ρ : Rg} {tmps : Array Value} (R : RRel ι N ρ tmps) {ops : Array Oper} {o : Oper} {g : Option (Nat × Bool)} (hg : trGuard ops o.guard = some g) {b : Bool} (h : wants ρ g = some b) : Region.wanted o (yielded ops tmps) = b := by
  unfold Region.wanted
  unfold trGuard at hg
  split at hg
  · rename_i e
    rw [e]
    injection hg with hg; subst hg
    simp [wants] at h
    simp [h]
  · rename_i j c e
    rw [e]
    split at hg
    · rename_i t ht
      injection hg with hg; subst hg
      simp only [wants] at h
      have hat := at_rel R t
      simp only [yielded, ht, Option.bind_some]
      rw [Array.getD_eq_getD_getElem?] at hat
      split at h
      · rename_i d hd
        rw [hd] at hat
        injection h with h
        subst h
        cases ht' : tmps[t]? with
        | none => rw [ht'] at hat; simp [undef] at hat; cases hat
        | some v =>
          rw [ht'] at hat
          simp at hat
          cases hat
          cases d <;> cases c <;> rfl
      · rename_i hd
        rw [hd] at hat
        injection h with h
        subst h
        cases ht' : tmps[t]? with
        | none => rfl
        | some v =>
          rw [ht'] at hat
          simp at hat
          cases hat
          rfl
      · cases h
    · cases hg

theorem RRel.put {ι : Inj} {N : Nat} {ρ : Rg} {a : Act} (R : RRel ι N ρ a.tmps) {d : Option Nat} (hd : okDst N d = true) {v : AVal} {v' : Value} (h : VRel ι v v') : RRel ι N (put ρ d v) (a.put d v').tmps := by
  cases d with
  | none => exact R
  | some d =>
    have hlt : d < N := by simpa [okDst, Nat.blt_eq] using hd
    refine ⟨by simpa [Act.put] using R.1, fun t u hu => ?_⟩
    unfold Rst.put at hu
    simp only [Tr.get_set] at hu
    simp only [Act.put]
    by_cases e : t = d
    · subst e
      simp at hu
      subst hu
      have : t < a.tmps.size := by rw [R.1]; exact hlt
      simpa [Array.getD_eq_getD_getElem?, this] using h
    · rw [if_neg e] at hu
      have := R.2 t u hu
      rw [Array.getD_eq_getD_getElem?] at this ⊢
      rwa [Array.getElem?_setIfInBounds_ne (Ne.symm e)]
theorem put_defers (a : Act) (d : Option Nat) (v : Value) : (a.put d v).defers = a.defers := by cases d <;> rfl
theorem nul_rel (ι : Inj) : VRel ι .nul undef := .nul
end Rst
/- Drawn orders: which orders a region may be run in, which operations an order may move, and the check of the orders that are walked. -/
set_option linter.unusedVariables false
set_option linter.unusedSimpArgs false
namespace Rst
open Go

/-! ### What an operation reads -/
def AO.reads : AO → List Nat
  | .t n => [n]
  | _ => []
def oReads : Option AO → List Nat
  | none => []
  | some x => x.reads
def AOp.reads : AOp → List Nat
  | .mv x | .box _ x | .load _ x | .nilc x | .un _ x | .convI _ x | .convBS x | .convSS x | .convSB x | .mkI _ x | .fa _ x | .fld _ _ x | .ta _ _ _ x | .ext x _ | .len _ x | .clr _ x | .panic x => x.reads
  | .pick c a b => c.reads ++ a.reads ++ b.reads
  | .alloc _ | .mkM | .lenArr _ => []
  | .build _ ps | .buildS _ _ _ ps => ps.flatMap fun p => p.2.2.reads
  | .store _ a x | .bin _ a x | .eqv _ _ a x | .ia _ a x | .iaArr _ _ a x | .idxStr a x | .idxArr _ _ _ a x | .lk _ _ _ a x | .del _ a x | .app _ _ a x | .cpy _ a x | .mkS _ _ a x => a.reads ++ x.reads
  | .mu _ a x y => a.reads ++ x.reads ++ y.reads
  | .mkF _ cs | .min cs | .max cs => cs.flatMap AO.reads
  | .sl _ x lo hi mx | .slArr _ _ x lo hi mx => x.reads ++ oReads lo ++ oReads hi ++ oReads mx
  | .slStr x lo hi => x.reads ++ oReads lo ++ oReads hi
  | .call f args => f.reads ++ args.flatMap AO.reads
  | .again _ _ => []
def gReads : Option (Nat × Bool) → List Nat
  | none => []
  | some (t, _) => [t]
/-- Operations that leave the heap alone. -/
def AOp.light : AOp → Bool
  | .mv _ | .pick _ _ _ | .build _ _ | .load _ _ | .nilc _ | .bin _ _ _ | .eqv _ _ _ _ | .un _ _ | .convI _ _ | .convBS _ | .convSS _ | .mkI _ _ | .mkF _ _ | .sl _ _ _ _ _ | .slStr _ _ _ | .slArr _ _ _ _ _ _
  | .fa _ _ | .ia _ _ _ | .iaArr _ _ _ _ | .idxStr _ _ | .idxArr _ _ _ _ _ | .fld _ _ _ | .lk _ _ _ _ _ | .ta _ _ _ _ | .ext _ _ | .len _ _ | .lenArr _ => true
  | _ => false
/-- Operations that look at the heap. -/
def AOp.looks : AOp → Bool
  | .load _ _ | .convBS _ | .slArr _ _ _ _ _ _ | .lk _ _ _ _ _ | .len .map _ => true
  | _ => false
def AOp.isAgain : AOp → Bool
  | .again _ _ => true
  | _ => false

theorem AO.ev_congr {ρ ρ' : Rg} {x : AO} (h : ∀ t ∈ x.reads, ρ.at t = ρ'.at t) : x.ev ρ = x.ev ρ' := by
  cases x with
  | t n => exact h n (by simp [AO.reads])
  | c v => rfl
  | f n => rfl
theorem oev_congr {ρ ρ' : Rg} {x : Option AO} (h : ∀ t ∈ oReads x, ρ.at t = ρ'.at t) : x.map (·.ev ρ) = x.map (·.ev ρ') := by
  cases x with
  | none => rfl
  | some x => simp only [Option.map_some]; rw [AO.ev_congr h]
theorem lev_congr {ρ ρ' : Rg} {l : List AO} (h : ∀ t ∈ l.flatMap AO.reads, ρ.at t = ρ'.at t) : l.map (·.ev ρ) = l.map (·.ev ρ') := by
  refine List.map_congr_left fun x hx => AO.ev_congr fun t ht => h t ?_
  exact List.mem_flatMap.2 ⟨x, hx, ht⟩
theorem pairs_congr {ρ ρ' : Rg} {l : List (Nat × Nat × AO)} (h : ∀ t ∈ l.flatMap (fun p => p.2.2.reads), ρ.at t = ρ'.at t) : pairs ρ l = pairs ρ' l := by
  refine List.map_congr_left fun x hx => ?_
  obtain ⟨a, b, x⟩ := x
  have : x.ev ρ = x.ev ρ' := AO.ev_congr fun t ht => h t (List.mem_flatMap.2 ⟨_, hx, ht⟩)
  simp [this]
theorem evOp_congr {ρ ρ' : Rg} {H : AH} {op : AOp} (ha : op.isAgain = false) (h : ∀ t ∈ op.reads, ρ.at t = ρ'.at t) : evOp ρ H op = evOp ρ' H op := by
  cases op <;> simp only [AOp.reads, List.mem_append, List.append_assoc] at h <;> simp only [evOp]
  case mv x => rw [AO.ev_congr h]
  case pick c a b => rw [AO.ev_congr fun t ht => h t (.inl ht), AO.ev_congr (x := a) fun t ht => h t (.inr (.inl ht)), AO.ev_congr (x := b) fun t ht => h t (.inr (.inr ht))]
  case box n x => rw [AO.ev_congr h]
  case build z ps => rw [pairs_congr h]
  case buildS z n sz ps => rw [pairs_congr h]
  case load n x => cases n <;> simp only [evOp] <;> rw [AO.ev_congr h]
  case store n a x => rw [AO.ev_congr fun t ht => h t (.inl ht), AO.ev_congr (x := x) fun t ht => h t (.inr ht)]
  case nilc x => rw [AO.ev_congr h]
  case bin op a x => rw [AO.ev_congr fun t ht => h t (.inl ht), AO.ev_congr (x := x) fun t ht => h t (.inr ht)]
  case eqv ne t a x => rw [AO.ev_congr fun t ht => h t (.inl ht), AO.ev_congr (x := x) fun t ht => h t (.inr ht)]
  case un op x => rw [AO.ev_congr h]
  case convI k x => rw [AO.ev_congr h]
  case convBS x => rw [AO.ev_congr h]
  case convSS x => rw [AO.ev_congr h]
  case convSB x => rw [AO.ev_congr h]
  case mkI t x => rw [AO.ev_congr h]
  case mkF f cs => rw [lev_congr h]
  case mkS z b a x => rw [AO.ev_congr fun t ht => h t (.inl ht), AO.ev_congr (x := x) fun t ht => h t (.inr ht)]
  case sl sz x lo hi mx => rw [AO.ev_congr fun t ht => h t (.inl ht), oev_congr (x := lo) fun t ht => h t (.inr (.inl ht)), oev_congr (x := hi) fun t ht => h t (.inr (.inr (.inl ht))), oev_congr (x := mx) fun t ht => h t (.inr (.inr (.inr ht)))]
  case slStr x lo hi => rw [AO.ev_congr fun t ht => h t (.inl ht), oev_congr (x := lo) fun t ht => h t (.inr (.inl ht)), oev_congr (x := hi) fun t ht => h t (.inr (.inr ht))]
  case slArr n sz x lo hi mx => rw [AO.ev_congr fun t ht => h t (.inl ht), oev_congr (x := lo) fun t ht => h t (.inr (.inl ht)), oev_congr (x := hi) fun t ht => h t (.inr (.inr (.inl ht))), oev_congr (x := mx) fun t ht => h t (.inr (.inr (.inr ht)))]
  case fa off x => rw [AO.ev_congr h]
  case ia sz a x => rw [AO.ev_congr fun t ht => h t (.inl ht), AO.ev_congr (x := x) fun t ht => h t (.inr ht)]
  case iaArr n sz a x => rw [AO.ev_congr fun t ht => h t (.inl ht), AO.ev_congr (x := x) fun t ht => h t (.inr ht)]
  case idxStr a x => rw [AO.ev_congr fun t ht => h t (.inl ht), AO.ev_congr (x := x) fun t ht => h t (.inr ht)]
  case idxArr n sz one a x => rw [AO.ev_congr fun t ht => h t (.inl ht), AO.ev_congr (x := x) fun t ht => h t (.inr ht)]
  case fld off n x => rw [AO.ev_congr h]
  case lk t z ok a x => rw [AO.ev_congr fun t ht => h t (.inl ht), AO.ev_congr (x := x) fun t ht => h t (.inr ht)]
  case mu t a x y => rw [AO.ev_congr fun t ht => h t (.inl ht), AO.ev_congr (x := x) fun t ht => h t (.inr (.inl ht)), AO.ev_congr (x := y) fun t ht => h t (.inr (.inr ht))]
  case del t a x => rw [AO.ev_congr fun t ht => h t (.inl ht), AO.ev_congr (x := x) fun t ht => h t (.inr ht)]
  case ta t z ok x => rw [AO.ev_congr h]
  case ext x i => rw [AO.ev_congr h]
  case len k x => rw [AO.ev_congr h]
  case app sz b a x => rw [AO.ev_congr fun t ht => h t (.inl ht), AO.ev_congr (x := x) fun t ht => h t (.inr ht)]
  case min xs =>
    cases xs with
    | nil => rfl
    | cons x xs => cases xs with
      | nil => rfl
      | cons y xs => cases xs with
        | nil =>
          simp only [List.flatMap_cons, List.flatMap_nil, List.append_nil, List.mem_append] at h
          simp only [evOp]
          rw [AO.ev_congr fun t ht => h t (.inl ht), AO.ev_congr (x := y) fun t ht => h t (.inr ht)]
        | cons z xs => rfl
  case max xs =>
    cases xs with
    | nil => rfl
    | cons x xs => cases xs with
      | nil => rfl
      | cons y xs => cases xs with
        | nil =>
          simp only [List.flatMap_cons, List.flatMap_nil, List.append_nil, List.mem_append] at h
          simp only [evOp]
          rw [AO.ev_congr fun t ht => h t (.inl ht), AO.ev_congr (x := y) fun t ht => h t (.inr ht)]
        | cons z xs => rfl
  case clr z x => rw [AO.ev_congr h]
  case cpy sz a x => rw [AO.ev_congr fun t ht => h t (.inl ht), AO.ev_congr (x := x) fun t ht => h t (.inr ht)]
theorem evV_congr {C : CallSem} {ρ ρ' : Rg} {H : AH} {op : AOp} {K Pn : AVal → AH → Prop} (ha : op.isAgain = false) (h : ∀ t ∈ op.reads, ρ.at t = ρ'.at t) : EvV C op ρ H K Pn = EvV C op ρ' H K Pn := by
  cases op
  case call f args =>
    simp only [AOp.reads, List.mem_append] at h
    simp only [EvV]
    rw [AO.ev_congr fun t ht => h t (.inl ht), lev_congr (l := args) fun t ht => h t (.inr ht)]
  case panic x => simp only [EvV]; rw [AO.ev_congr h]
  case again => cases ha
  all_goals
    simp only [EvV]
    rw [evOp_congr rfl h]
theorem wants_congr {ρ ρ' : Rg} {g : Option (Nat × Bool)} (h : ∀ t ∈ gReads g, ρ.at t = ρ'.at t) : wants ρ g = wants ρ' g := by
  cases g with
  | none => rfl
  | some p => obtain ⟨t, b⟩ := p; simp only [wants]; rw [h t (by simp [gReads])]

theorem evOp_light {ρ : Rg} {H H' : AH} {op : AOp} {v : AVal} (hl : op.light = true) (h : evOp ρ H op = some (v, H')) : H' = H := by
  cases op <;> simp only [AOp.light, Bool.false_eq_true] at hl
  case load n x => cases n <;> simp only [evOp] at h <;> (repeat' split at h) <;> first | (cases h; done) | (simp only [Option.some.injEq, Prod.mk.injEq] at h; exact h.2.symm)
  all_goals
    simp only [evOp] at h
    (repeat' split at h) <;> first | (cases h; done) | (simp only [Option.some.injEq, Prod.mk.injEq] at h; exact h.2.symm)
theorem evOp_pure {ρ : Rg} {H H' : AH} {op : AOp} {v : AVal} (hl : op.light = true) (hr : op.looks = false) (h : evOp ρ H op = some (v, H)) : evOp ρ H' op = some (v, H') := by
  cases op <;> simp only [AOp.light, Bool.false_eq_true] at hl <;> try (simp [AOp.looks] at hr; done)
  case len k x =>
    cases k <;> try (simp [AOp.looks] at hr; done)
    all_goals
      simp only [evOp, lenV] at h ⊢
      generalize x.ev ρ = X at h ⊢
      cases X <;> simp_all
  all_goals
    simp only [evOp] at h ⊢
    (repeat' split at h) <;> first | (cases h; done) | (simp only [Option.some.injEq, Prod.mk.injEq] at h; obtain ⟨rfl, _⟩ := h; simp_all)
theorem light_evV {C : CallSem} {op : AOp} {ρ : Rg} {H : AH} {K Pn : AVal → AH → Prop} (hl : op.light = true) : EvV C op ρ H K Pn ↔ ∃ v, evOp ρ H op = some (v, H) ∧ K v H := by
  have : EvV C op ρ H K Pn = (match evOp ρ H op with | some (v, H') => K v H' | none => False) := by
    cases op <;> first | rfl | (simp [AOp.light] at hl)
  rw [this]
  cases h : evOp ρ H op with
  | none => simp
  | some p =>
    obtain ⟨v, H'⟩ := p
    have := evOp_light hl h
    subst this
    simp
end Rst
