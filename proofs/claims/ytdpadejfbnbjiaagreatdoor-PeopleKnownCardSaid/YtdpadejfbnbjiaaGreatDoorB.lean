/- A verified abstract machine for this program, contracts of its functions, and rows: OpsA. -/
import Derived.Test.YtdpadejfbnbjiaaGreatDoorA
import Derived.Lib.Bytes
/- What each translated operation does in the model, told by what its translation does in the abstract machine: the operations that touch no memory, and loads, stores and new blocks. -/
set_option linter.unusedVariables false
set_option linter.unusedSimpArgs false
namespace Rst
open Go

theorem optMap_spec {α β : Type} {f : α → Option β} : ∀ {l : List α} {r : List β}, optMap f l = some r → l.length = r.length ∧ ∀ (i : Nat) (a : α), l[i]? = some a → ∃ b, r[i]? = some b ∧ f a = some b := by
  intro l
  induction l with
  | nil => intro r h; simp [optMap] at h; subst h; simp
  | cons x l ih =>
    intro r h
    unfold optMap at h
    split at h
    · rename_i b r' hb hr
      injection h with h
      subst h
      obtain ⟨h1, h2⟩ := ih hr
      refine ⟨by simp [h1], fun i a ha => ?_⟩
      cases i with
      | zero => simp at ha; subst ha; exact ⟨b, rfl, hb⟩
      | succ i => simpa using h2 i a (by simpa using ha)
    · cases h

theorem VsRel.of_optMap {ι : Inj} {f : Value → Option AVal} (hf : ∀ v a, f v = some a → VRel ι a v) : ∀ {l : List Value} {r : List AVal}, optMap f l = some r → VsRel ι r l := by
  intro l
  induction l with
  | nil => intro r h; simp [optMap] at h; subst h; exact .nil
  | cons x l ih =>
    intro r h
    unfold optMap at h
    split at h
    · rename_i b r' hb hr
      injection h with h
      subst h
      exact .cons _ _ _ _ (hf _ _ hb) (ih hr)
    · cases h

theorem trV_rel (ι : Inj) : ∀ (d : Nat) (v : Value) (a : AVal), trV d v = some a → VRel ι a v := by
  intro d
  induction d with
  | zero =>
    intro v a h
    unfold trV at h
    split at h <;> first
      | (injection h with h; subst h; first | exact .bool _ | exact .int _ _ | exact .str _ _ rfl | exact .ptrN | exact .sliceN _ | exact .mapN | exact .nilFunc | exact .nilIface)
      | (cases h; done)
      | skip
    all_goals omega
  | succ d ih =>
    intro v a h
    unfold trV at h
    split at h <;> first
      | (injection h with h; subst h; first | exact .bool _ | exact .int _ _ | exact .str _ _ rfl | exact .ptrN | exact .sliceN _ | exact .mapN | exact .nilFunc | exact .nilIface)
      | (cases h; done)
      | skip
    · rename_i d' cs he
      injection he with he
      subst he
      split at h
      · rename_i l hl
        injection h with h
        subst h
        have := VsRel.of_optMap (ι := ι) ih hl
        simpa using VRel.agg l cs.toList this
      · cases h
    · rename_i d' cs he
      injection he with he
      subst he
      split at h
      · rename_i l hl
        injection h with h
        subst h
        have := VsRel.of_optMap (ι := ι) ih hl
        simpa using VRel.tup l cs.toList this
      · cases h

theorem at_rel {ι : Inj} {n : Nat} {ρ : Rg} {t : Array Value} (R : RRel ι n ρ t) (i : Nat) : VRel ι (ρ.at i) (t.getD i undef) := by
  unfold Tr.at
  split
  · rename_i v h; exact R.2 i v h
  · exact .und _
theorem trO_rel {ι : Inj} {n : Nat} {ρ : Rg} {act : Act} (R : RRel ι n ρ act.tmps) {x : Operand} {a : AO} (h : trO x = some a) : VRel ι (a.ev ρ) (act.eval x) := by
  cases x with
  | tmp t => simp [trO] at h; subst h; exact at_rel R t
  | const v =>
    simp only [trO] at h
    split at h
    · rename_i b hb; injection h with h; subst h; exact trV_rel ι 4 v b hb
    · cases h
  | global g => simp [trO] at h; subst h; exact .und _
  | func f => simp [trO] at h; subst h; exact .func _ _ [] [] (.func f) .nil
theorem trOs_rel {ι : Inj} {n : Nat} {ρ : Rg} {act : Act} (R : RRel ι n ρ act.tmps) : ∀ {l : List Operand} {r : List AO}, optMap trO l = some r → VsRel ι (r.map (·.ev ρ)) (l.map act.eval) := by
  intro l
  induction l with
  | nil => intro r h; simp [optMap] at h; subst h; exact .nil
  | cons x l ih =>
    intro r h
    unfold optMap at h
    split at h
    · rename_i b r' hb hr
      injection h with h
      subst h
      exact .cons _ _ _ _ (trO_rel R hb) (ih hr)
    · cases h

/-! ### The run of the model's small words -/
section
variable {P : Program} (w : World)
theorem rInfo {t : TypeId} {i : TypeInfo} (h : P.info? t = some i) : (typeInfo t).run P w = .ok i w := by simp [typeInfo, h]
theorem rSize {t : TypeId} {i : TypeInfo} (h : P.info? t = some i) : (Go.sizeOf t).run P w = .ok i.size w := by simp [Go.sizeOf, rInfo w h]
theorem rZero {t : TypeId} {i : TypeInfo} {z : Value} (h : P.info? t = some i) (hz : i.zero = some z) : (zeroValue t).run P w = .ok z w := by simp [zeroValue, rInfo w h, hz]
theorem rAgg {t : TypeId} {d : TypeDesc} (h : P.underlying t = some d) : (isAgg t).run P w = .ok (isAggD d) w := by
  simp only [isAgg, Sem.run_bind, run_underlying h, Result.andThen_ok]
  cases d <;> rfl
end

/-- What it means that an operation is told by its translation. -/
def OpOk (P : Program) (o : Oper) (a : AOp) : Prop :=
  ∀ (CR : CodeRel) (F : Nat → Option Obj) (w0 : World) (ι : Inj) (n : Nat) (ρ : Rg) (H : AH) (w : World) (act : Act) (v : AVal) (H' : AH),
    Rel CR F w0 ι H w → RRel ι n ρ act.tmps → evOp ρ H a = some (v, H') →
    ∃ nx v' w' ι', (execOp act.eval o).run P w = .ok nx w' ∧ (nx = .value v' ∨ nx = .skip ∧ v' = undef) ∧ VRel ι' v v' ∧ ι.le ι' ∧ Rel CR F w0 ι' H' w'

/-- Of an operation that leaves the heap alone. -/
theorem OpOk.same {P : Program} {o : Oper} {a : AOp}
    (h : ∀ (CR : CodeRel) (F : Nat → Option Obj) (w0 : World) (ι : Inj) (n : Nat) (ρ : Rg) (H : AH) (w : World) (act : Act) (v : AVal) (H' : AH), Rel CR F w0 ι H w → RRel ι n ρ act.tmps → evOp ρ H a = some (v, H') →
      H' = H ∧ ∃ v', (execOp act.eval o).run P w = .ok (.value v') w ∧ VRel ι v v') : OpOk P o a := by
  intro CR F w0 ι n ρ H w act v H' R RR he
  obtain ⟨rfl, v', h1, h2⟩ := h CR F w0 ι n ρ H w act v H' R RR he
  exact ⟨_, v', w, ι, h1, .inl rfl, h2, Inj.le.refl _, R⟩

theorem run_v {P : Program} {s : Sem Value} {v : Value} {w w' : World} (h : s.run P w = .ok v w') : (do pure (Next.value (← s)) : Sem Next).run P w = .ok (.value v) w' := by
  simp [h]
theorem run_u {P : Program} {s : Sem Unit} {w w' : World} (h : s.run P w = .ok () w') : (do s; pure Next.skip : Sem Next).run P w = .ok .skip w' := by
  simp [h]


theorem wr_eq (k : IntKind) (n : Int) : wr k n = k.wrap n := by
  unfold wr
  split
  · rename_i h
    cases k <;> simp [IntKind.wrap, IntKind.bits, IntKind.signed] <;> omega
  · split
    · rename_i h1 h
      obtain ⟨rfl, h2, h3⟩ := h
      simp [IntKind.wrap, IntKind.bits, IntKind.signed]
      omega
    · rfl

section ops
variable {P : Program} {o : Oper}

theorem ok_mv {x : Operand} {a : AO} (ho : o.op = .move x ∨ o.op = .assign x) (h : trO x = some a) : OpOk P o (.mv a) :=
  .same fun CR F w0 ι n ρ H w act v H' R RR he => by
    simp only [evOp, Option.some.injEq, Prod.mk.injEq] at he
    obtain ⟨rfl, rfl⟩ := he
    refine ⟨rfl, _, ?_, trO_rel RR h⟩
    rcases ho with ho | ho <;> simp [execOp, ho]

theorem ok_pick {x y z : Operand} {a b c : AO} (ho : o.op = .pick x y z) (hx : trO x = some a) (hy : trO y = some b) (hz : trO z = some c) : OpOk P o (.pick a b c) :=
  .same fun CR F w0 ι n ρ H w act v H' R RR he => by
    have h1 := trO_rel RR hx
    simp only [evOp] at he
    generalize hX : act.eval x = X at h1
    generalize a.ev ρ = A at h1 he
    cases h1 <;> try (simp at he; done)
    rename_i t
    cases t <;> (simp only [Option.some.injEq, Prod.mk.injEq] at he; obtain ⟨rfl, rfl⟩ := he)
    · exact ⟨rfl, _, by simp [execOp, ho, hX, asBool], trO_rel RR hz⟩
    · exact ⟨rfl, _, by simp [execOp, ho, hX, asBool], trO_rel RR hy⟩

theorem ok_nilc {x : Operand} {a : AO} (ho : o.op = .nilCheck x) (hx : trO x = some a) : OpOk P o (.nilc a) :=
  .same fun CR F w0 ι n ρ H w act v H' R RR he => by
    have h1 := trO_rel RR hx
    simp only [evOp] at he
    generalize hX : act.eval x = X at h1
    generalize a.ev ρ = A at h1 he
    have hk := h1
    cases h1 <;> try (simp at he; done)
    · simp only [Option.some.injEq, Prod.mk.injEq] at he
      obtain ⟨rfl, rfl⟩ := he
      exact ⟨rfl, _, by simp [execOp, ho, hX], hk⟩
    · rename_i fn fn' cs cs' hf hc
      simp only [Option.some.injEq, Prod.mk.injEq] at he
      obtain ⟨rfl, rfl⟩ := he
      refine ⟨rfl, _, ?_, hk⟩
      cases hf <;> simp [execOp, ho, hX]

theorem ok_mkI {t : TypeId} {x : Operand} {a : AO} {d : TypeDesc} (ho : o.op = .makeInterface t x) (hd : P.underlying t = some d) (hn : ∀ ms, d ≠ .interface ms) (hx : trO x = some a) : OpOk P o (.mkI t a) :=
  .same fun CR F w0 ι n ρ H w act v H' R RR he => by
    simp only [evOp, Option.some.injEq, Prod.mk.injEq] at he
    obtain ⟨rfl, rfl⟩ := he
    refine ⟨rfl, _, ?_, .iface _ _ _ (trO_rel RR hx)⟩
    simp only [execOp, ho]
    refine run_v ?_
    simp only [Instr.makeInterface, Sem.run_bind, run_underlying hd, Result.andThen_ok]
    cases d <;> first | rfl | exact absurd rfl (hn _)

theorem ok_mkF {f : Nat} {first cs : Array Operand} {l : List AO} (ho : o.op = .makeFunc (.func f) first cs) (h0 : first.size = 0) (hl : optMap trO cs.toList = some l) : OpOk P o (.mkF f l) :=
  .same fun CR F w0 ι n ρ H w act v H' R RR he => by
    simp only [evOp, Option.some.injEq, Prod.mk.injEq] at he
    obtain ⟨rfl, rfl⟩ := he
    have hf : first = #[] := Array.eq_empty_of_size_eq_zero h0
    subst hf
    refine ⟨rfl, _, ?_, .func _ _ _ _ (.func f) (trOs_rel RR hl)⟩
    simp only [execOp, ho]
    refine run_v ?_
    simp only [Instr.makeFunc, List.map_toArray, List.map_nil, Sem.run_pure]
    congr 2
    simp [← Array.toList_map]

theorem ok_convI {src t : TypeId} {j k : IntKind} {x : Operand} {a : AO} (ho : o.op = .convert src t x) (hs : P.underlying src = some (.int j)) (hd : P.underlying t = some (.int k)) (hx : trO x = some a) : OpOk P o (.convI k a) :=
  .same fun CR F w0 ι n ρ H w act v H' R RR he => by
    have h1 := trO_rel RR hx
    simp only [evOp] at he
    generalize hX : act.eval x = X at h1
    generalize a.ev ρ = A at h1 he
    cases h1 <;> try (simp at he; done)
    simp only [Option.some.injEq, Prod.mk.injEq] at he
    obtain ⟨rfl, rfl⟩ := he
    refine ⟨rfl, _, ?_, .int _ _⟩
    simp only [execOp, ho]
    refine run_v ?_
    simp [convert, run_underlying hs, run_underlying hd, hX, Conv.intToInt, wr_eq]

theorem ok_convSS {src t : TypeId} {x : Operand} {a : AO} (ho : o.op = .convert src t x) (hs : P.underlying src = some .string) (hd : P.underlying t = some .string) (hx : trO x = some a) : OpOk P o (.convSS a) :=
  .same fun CR F w0 ι n ρ H w act v H' R RR he => by
    have h1 := trO_rel RR hx
    simp only [evOp] at he
    generalize hX : act.eval x = X at h1
    generalize a.ev ρ = A at h1 he
    have hk := h1
    cases h1 <;> try (simp at he; done)
    simp only [Option.some.injEq, Prod.mk.injEq] at he
    obtain ⟨rfl, rfl⟩ := he
    refine ⟨rfl, _, ?_, hk⟩
    simp only [execOp, ho]
    refine run_v ?_
    simp [convert, run_underlying hs, run_underlying hd, hX]

theorem bytesEq_spec : ∀ (a b : List UInt8), bytesEq (a.map (·.toNat)) (b.map (·.toNat)) = (a == b) := by
  intro a
  induction a with
  | nil => intro b; cases b <;> simp [bytesEq]
  | cons x a ih =>
    intro b
    cases b with
    | nil => simp [bytesEq]
    | cons y b =>
      simp only [List.map_cons, bytesEq, ih, List.cons_beq_cons]
      congr 1
      rw [Bool.eq_iff_iff]
      simp [Nat.beq_eq, UInt8.toNat_inj]
theorem bytesLt_spec : ∀ (a b : List UInt8), bytesLt (a.map (·.toNat)) (b.map (·.toNat)) = Op.bytesLess a b := by
  intro a
  induction a with
  | nil => intro b; cases b <;> simp [bytesLt, Op.bytesLess]
  | cons x a ih =>
    intro b
    cases b with
    | nil => simp [bytesLt, Op.bytesLess]
    | cons y b =>
      simp only [List.map_cons, bytesLt, Op.bytesLess, ih]
      have e1 : Nat.blt x.toNat y.toNat = decide (x < y) := by
        rw [Bool.eq_iff_iff]; simp [Nat.blt_eq, UInt8.lt_iff_toNat_lt]
      have e2 : Nat.beq x.toNat y.toNat = (x == y) := by
        rw [Bool.eq_iff_iff]; simp [Nat.beq_eq, UInt8.toNat_inj]
      rw [e1, e2]

theorem run_eqGuard {P : Program} {w : World} (op : BinOp) (t : TypeId) (x y : Operand) (a b : Value) (h1 : ∀ cs, a ≠ .agg cs) (h2 : a ≠ .nilIface) : (eqGuard op t x y a b).run P w = .ok () w := by
  unfold eqGuard
  cases op <;> cases a <;> first | exact absurd rfl h2 | exact absurd rfl (h1 _) | rfl

theorem run_ibin {P : Program} {ι : Inj} {w : World} (op : BinOp) (t : TypeId) (k : IntKind) (m m' : Int) (r : AVal) (n1 : op ≠ .shl) (n2 : op ≠ .shr) (hr : ibin op k m m' = some r) :
    ∃ v', (binOp op t (.int k m) (.int k m')).run P w = .ok v' w ∧ VRel ι r v' := by
  cases op
  case shl => exact absurd rfl n1
  case shr => exact absurd rfl n2
  case add => simp only [ibin, wr_eq, Option.some.injEq] at hr; subst hr; exact ⟨_, by simp [binOp, Op.intArith], .int _ _⟩
  case sub => simp only [ibin, wr_eq, Option.some.injEq] at hr; subst hr; exact ⟨_, by simp [binOp, Op.intArith], .int _ _⟩
  case mul => simp only [ibin, wr_eq, Option.some.injEq] at hr; subst hr; exact ⟨_, by simp [binOp, Op.intArith], .int _ _⟩
  case quo =>
    simp only [ibin, wr_eq] at hr
    by_cases hz : m' = 0
    · rw [if_pos hz] at hr; cases hr
    · rw [if_neg hz] at hr; injection hr with hr; subst hr; exact ⟨_, by simp [binOp, Op.intDiv, hz], .int _ _⟩
  case rem =>
    simp only [ibin, wr_eq] at hr
    by_cases hz : m' = 0
    · rw [if_pos hz] at hr; cases hr
    · rw [if_neg hz] at hr; injection hr with hr; subst hr; exact ⟨_, by simp [binOp, Op.intDiv, hz], .int _ _⟩
  case and => simp only [ibin, Option.some.injEq] at hr; subst hr; exact ⟨_, by simp [binOp, Op.intBits], .int _ _⟩
  case or => simp only [ibin, Option.some.injEq] at hr; subst hr; exact ⟨_, by simp [binOp, Op.intBits], .int _ _⟩
  case xor => simp only [ibin, Option.some.injEq] at hr; subst hr; exact ⟨_, by simp [binOp, Op.intBits], .int _ _⟩
  case andNot => simp [ibin] at hr
  case eql => simp only [ibin, Option.some.injEq] at hr; subst hr; exact ⟨.bool (m == m'), by simp [binOp, Op.intCmp], by rw [show (m == m') = decide (m = m') from rfl]; exact .bool _⟩
  case neq => simp only [ibin, Option.some.injEq] at hr; subst hr; exact ⟨.bool (m != m'), by simp [binOp, Op.intCmp], by rw [show (m != m') = decide (m ≠ m') from by simp [bne, show (m == m') = decide (m = m') from rfl]]; exact .bool _⟩
  case lss => simp only [ibin, Option.some.injEq] at hr; subst hr; exact ⟨_, by simp [binOp, Op.intCmp], .bool _⟩
  case leq => simp only [ibin, Option.some.injEq] at hr; subst hr; exact ⟨_, by simp [binOp, Op.intCmp], .bool _⟩
  case gtr => simp only [ibin, Option.some.injEq] at hr; subst hr; exact ⟨_, by simp [binOp, Op.intCmp], .bool _⟩
  case geq => simp only [ibin, Option.some.injEq] at hr; subst hr; exact ⟨_, by simp [binOp, Op.intCmp], .bool _⟩

theorem run_sbin {P : Program} {ι : Inj} {w : World} (op : BinOp) (t : TypeId) (s s' : ByteArray) (r : AVal) (hr : sbin op (s.data.toList.map (·.toNat)) (s'.data.toList.map (·.toNat)) = some r) :
    ∃ v', (binOp op t (.string s) (.string s')).run P w = .ok v' w ∧ VRel ι r v' := by
  cases op <;> first | (simp [sbin] at hr; done) | skip
  all_goals simp only [sbin, bytesEq_spec, bytesLt_spec, Option.some.injEq] at hr
  case add =>
    split at hr
    · rename_i hlen
      injection hr with hr
      subst hr
      refine ⟨.string (s ++ s'), ?_, .str _ _ (by simp [ByteArray.data_append])⟩
      have hn : ¬ (((s.size + s'.size : Nat) : Int) > IntKind.i64.max) := by
        simp only [List.length_map, Array.length_toList] at hlen
        have e1 : s.data.size = s.size := rfl
        have e2 : s'.data.size = s'.size := rfl
        have e3 : IntKind.i64.max = 9223372036854775807 := by decide
        rw [e3]
        omega
      simp only [binOp, Op.stringOp]
      rw [if_neg hn]
      rfl
    · cases hr
  all_goals subst hr
  all_goals refine ⟨_, ?_, .bool _⟩
  all_goals simp only [binOp, Op.stringOp, Lib.toList_data]
  all_goals rfl

theorem run_abin {P : Program} {ι : Inj} {w : World} (op : BinOp) (t : TypeId) {x y r : AVal} {X Y : Value} (h1 : VRel ι x X) (h2 : VRel ι y Y) (hr : abin op x y = some r) :
    (∀ cs, X ≠ .agg cs) ∧ X ≠ .nilIface ∧ ∃ v', (binOp op t X Y).run P w = .ok v' w ∧ VRel ι r v' := by
  cases h1 <;> try (simp [abin] at hr; done)
  · rename_i k m
    refine ⟨by simp, by simp, ?_⟩
    cases h2 <;> try (simp [abin] at hr; done)
    rename_i k' m'
    by_cases n1 : op = .shl
    · subst n1
      simp only [abin] at hr
      split at hr
      · rename_i h0
        injection hr with hr
        subst hr
        refine ⟨_, ?_, .int _ _⟩
        simp only [binOp, Op.shift]
        rw [if_neg (Int.not_lt.2 h0)]
        rfl
      · cases hr
    by_cases n2 : op = .shr
    · subst n2
      simp only [abin] at hr
      split at hr
      · rename_i h0
        injection hr with hr
        subst hr
        refine ⟨_, ?_, .int _ _⟩
        simp only [binOp, Op.shift]
        rw [if_neg (Int.not_lt.2 h0)]
        rfl
      · cases hr
    have hr' : (if k = k' then ibin op k m m' else none) = some r := by
      cases op <;> first | exact hr | exact absurd rfl n1 | exact absurd rfl n2
    split at hr'
    · rename_i hk
      subst hk
      exact run_ibin op t k m m' r n1 n2 hr'
    · cases hr'
  · rename_i l s hl
    refine ⟨by simp, by simp, ?_⟩
    cases h2 <;> try (simp [abin] at hr; done)
    rename_i l' s' hl'
    subst hl hl'
    exact run_sbin op t s s' r (by simpa [abin] using hr)

theorem ok_bin {t u : TypeId} {op : BinOp} {x y : Operand} {a b : AO} (ho : o.op = .binOp op t x y u) (hx : trO x = some a) (hy : trO y = some b) : OpOk P o (.bin op a b) :=
  .same fun CR F w0 ι n ρ H w act v H' R RR he => by
    simp only [evOp] at he
    split at he
    · rename_i r hr
      simp only [Option.some.injEq, Prod.mk.injEq] at he
      obtain ⟨rfl, rfl⟩ := he
      obtain ⟨q1, q2, v', h3, h4⟩ := run_abin (P := P) (w := w) op t (trO_rel RR hx) (trO_rel RR hy) hr
      refine ⟨rfl, v', ?_, h4⟩
      simp only [execOp, ho]
      refine run_v ?_
      simp only [Sem.run_bind]
      rw [run_eqGuard _ _ _ _ _ _ q1 q2]
      exact h3
    · cases he

theorem ok_un {t : TypeId} {op : UnOp} {x : Operand} {a : AO} (ho : o.op = .unOp op t x) (hx : trO x = some a) : OpOk P o (.un op a) :=
  .same fun CR F w0 ι n ρ H w act v H' R RR he => by
    have h1 := trO_rel RR hx
    simp only [evOp] at he
    split at he
    · rename_i r hr
      simp only [Option.some.injEq, Prod.mk.injEq] at he
      obtain ⟨rfl, rfl⟩ := he
      generalize hX : act.eval x = X at h1
      generalize a.ev ρ = A at h1 hr
      refine ⟨rfl, ?_⟩
      cases h1 <;> try (cases op <;> simp [aun] at hr; done)
      · cases op <;> simp only [aun, reduceCtorEq, Option.some.injEq] at hr
        subst hr
        exact ⟨_, by simp [execOp, ho, hX, Op.unary], .bool _⟩
      · cases op <;> simp only [aun, reduceCtorEq, Option.some.injEq, wr_eq] at hr
        subst hr
        exact ⟨_, by simp [execOp, ho, hX, Op.unary, Op.intArith], .int _ _⟩
    · cases he

theorem ok_ext {x : Operand} {a : AO} {i : Nat} (ho : o.op = .extract x i) (hx : trO x = some a) : OpOk P o (.ext a i) :=
  .same fun CR F w0 ι n ρ H w act v H' R RR he => by
    have h1 := trO_rel RR hx
    simp only [evOp] at he
    generalize hX : act.eval x = X at h1
    generalize a.ev ρ = A at h1 he
    cases h1 <;> try (simp at he; done)
    rename_i vs vs' hv
    dsimp only at he
    split at he
    · rename_i u hu
      simp only [Option.some.injEq, Prod.mk.injEq] at he
      obtain ⟨rfl, rfl⟩ := he
      obtain ⟨v', h3, h4⟩ := hv.get i _ hu
      exact ⟨rfl, v', by simp [execOp, ho, hX, Instr.extract, h3], h4⟩
    · cases he

theorem ok_fa {t : TypeId} {x : Operand} {a : AO} {k : Nat} {fs : Array Field} {f : Field} {i : TypeInfo} (ho : o.op = .fieldAddr t x k) (hd : P.underlying t = some (.struct fs)) (hf : fs[k]? = some f)
    (hi : P.info? f.type = some i) (hz : i.size ≠ 0) (hx : trO x = some a) : OpOk P o (.fa f.offset a) :=
  .same fun CR F w0 ι n ρ H w act v H' R RR he => by
    have h1 := trO_rel RR hx
    simp only [evOp] at he
    generalize hX : act.eval x = X at h1
    generalize a.ev ρ = A at h1 he
    cases h1 <;> try (simp at he; done)
    rename_i b i' g o' N hb
    simp only [Option.some.injEq, Prod.mk.injEq] at he
    obtain ⟨rfl, rfl⟩ := he
    refine ⟨rfl, _, ?_, .ptr b _ g o' N hb⟩
    simp only [execOp, ho]
    refine run_v ?_
    simp [Instr.fieldAt, run_underlying hd, hf, hX, Instr.sureAddr, fieldPlace, rSize w hi, hz, addr_add, Nat.add_assoc]

theorem ok_ia {t e : TypeId} {x y : Operand} {a b : AO} {i : TypeInfo} (ho : o.op = .indexAddr t x y) (hd : P.underlying t = some (.slice e)) (hi : P.info? e = some i) (hx : trO x = some a) (hy : trO y = some b) : OpOk P o (.ia i.size a b) :=
  .same fun CR F w0 ι n ρ H w act v H' R RR he => by
    have h1 := trO_rel RR hx
    have h2 := trO_rel RR hy
    simp only [evOp] at he
    generalize hX : act.eval x = X at h1
    generalize hY : act.eval y = Y at h2
    generalize a.ev ρ = A at h1 he
    generalize b.ev ρ = B at h2 he
    cases h1 <;> try (simp at he; done)
    cases h2 <;> try (simp at he; done)
    rename_i q i' g o' N len cap cap' sz hq h3 h4 h5 h6 k m
    dsimp only at he
    split at he
    · rename_i hc
      simp only [Option.some.injEq, Prod.mk.injEq] at he
      obtain ⟨rfl, rfl⟩ := he
      refine ⟨rfl, _, ?_, .ptr q _ g o' N hq⟩
      simp only [execOp, ho]
      refine run_v ?_
      simp [Instr.indexAt, run_underlying hd, hX, hY, asIntOf, hc, rSize w hi, addr_add, Nat.add_assoc]
    · cases he

theorem ok_iaArr {t e : TypeId} {x y : Operand} {a b : AO} {i : TypeInfo} {n : Nat} (ho : o.op = .indexAddr t x y) (hd : P.underlying t = some (.array n e)) (hi : P.info? e = some i) (hx : trO x = some a) (hy : trO y = some b) : OpOk P o (.iaArr n i.size a b) :=
  .same fun CR F w0 ι _ ρ H w act v H' R RR he => by
    have h1 := trO_rel RR hx
    have h2 := trO_rel RR hy
    simp only [evOp] at he
    generalize hX : act.eval x = X at h1
    generalize hY : act.eval y = Y at h2
    generalize a.ev ρ = A at h1 he
    generalize b.ev ρ = B at h2 he
    cases h1 <;> try (simp at he; done)
    cases h2 <;> try (simp at he; done)
    rename_i q i' g o' N hq k m
    dsimp only at he
    split at he
    · rename_i hc
      simp only [Option.some.injEq, Prod.mk.injEq] at he
      obtain ⟨rfl, rfl⟩ := he
      refine ⟨rfl, _, ?_, .ptr q _ g o' N hq⟩
      simp only [execOp, ho]
      refine run_v ?_
      simp [Instr.indexAt, run_underlying hd, hX, hY, asIntOf, Instr.sureAddr, hc, rSize w hi, addr_add, Nat.add_assoc]
    · cases he

theorem ok_idxStr {t : TypeId} {x y : Operand} {a b : AO} (ho : o.op = .index t x y) (hd : P.underlying t = some .string) (hx : trO x = some a) (hy : trO y = some b) : OpOk P o (.idxStr a b) :=
  .same fun CR F w0 ι _ ρ H w act v H' R RR he => by
    have h1 := trO_rel RR hx
    have h2 := trO_rel RR hy
    simp only [evOp] at he
    generalize hX : act.eval x = X at h1
    generalize hY : act.eval y = Y at h2
    generalize a.ev ρ = A at h1 he
    generalize b.ev ρ = B at h2 he
    cases h1 <;> try (simp at he; done)
    cases h2 <;> try (simp at he; done)
    rename_i l s hl k m
    subst hl
    dsimp only at he
    split at he
    · rename_i hc
      split at he
      · rename_i u hu
        simp only [Option.some.injEq, Prod.mk.injEq] at he
        obtain ⟨rfl, rfl⟩ := he
        rw [List.getElem?_map, Option.map_eq_some_iff] at hu
        obtain ⟨c, hc1, rfl⟩ := hu
        refine ⟨rfl, _, ?_, .int _ _⟩
        simp only [execOp, ho]
        refine run_v ?_
        have hs : s[m.toNat]? = some c := by
          rw [Array.getElem?_toList] at hc1
          obtain ⟨h5, h6⟩ := Array.getElem?_eq_some_iff.1 hc1
          have h7 : m.toNat < s.size := h5
          rw [getElem?_pos s m.toNat h7]
          exact congrArg some h6
        simp [Instr.index, run_underlying hd, hX, hY, asIntOf, hc, hs]
      · cases he
    · cases he

/-! ### Cutting -/
theorem bnd_spec {P : Program} {ι : Inj} {w : World} {x : AVal} {X : Value} {top top' d m : Nat} (h : VRel ι x X) (hb : bnd (some x) d top = some m) (htop : top ≤ top') (code : BoundsCode) :
    m ≤ top ∧ (Instr.sliceBound X top' code).run P w = .ok m w := by
  cases h <;> try (simp [bnd] at hb; done)
  rename_i k n
  simp only [bnd] at hb
  split at hb
  · rename_i hc
    injection hb with hb
    subst hb
    refine ⟨by omega, ?_⟩
    have : 0 ≤ n ∧ n ≤ (top' : Int) := by omega
    simp [Instr.sliceBound, asIntOf, this]
  · cases hb
theorem optO_rel {ι : Inj} {n : Nat} {ρ : Rg} {act : Act} (R : RRel ι n ρ act.tmps) {x : Option Operand} {a : Option AO} (h : trOO x = some a) :
    match a.map (·.ev ρ), x.map act.eval with
    | none, none => True
    | some v, some v' => VRel ι v v'
    | _, _ => False := by
  cases x with
  | none => simp [trOO] at h; subst h; trivial
  | some x =>
    simp only [trOO] at h
    split at h
    · rename_i b hb; injection h with h; subst h; exact trO_rel R hb
    · cases h
def ORel (ι : Inj) : Option AVal → Option Value → Prop
  | none, none => True
  | some v, some v' => VRel ι v v'
  | _, _ => False
theorem optO {ι : Inj} {n : Nat} {ρ : Rg} {act : Act} (R : RRel ι n ρ act.tmps) {x : Option Operand} {a : Option AO} (h : trOO x = some a) : ORel ι (a.map (·.ev ρ)) (x.map act.eval) := by
  have := optO_rel R h
  revert this
  cases a.map (·.ev ρ) <;> cases x.map act.eval <;> exact id

theorem sliceB_spec {P : Program} {ι : Inj} {w : World} {lo hi mx : Option AVal} {lo' hi' mx' : Option Value} {len cap cap' l h m : Nat} (isS : Bool) (h1 : ORel ι lo lo') (h2 : ORel ι hi hi') (h3 : ORel ι mx mx')
    (hs : sliceB len cap lo hi mx = some (l, h, m)) (hl : len ≤ cap) (hc : cap ≤ cap') (hmx : ¬ (mx.isSome = true ∧ hi.isNone = true)) :
    l ≤ h ∧ h ≤ m ∧ m ≤ cap ∧ (mx = none → m = cap) ∧ (Instr.sliceBounds isS len cap' lo' hi' mx').run P w = .ok (l, h, if mx.isSome then m else cap') w := by
  simp only [sliceB, Option.bind_eq_some_iff, Option.some.injEq, Prod.mk.injEq] at hs
  obtain ⟨m0, hm, h0, hh, l0, hl0, rfl, rfl, rfl⟩ := hs
  cases mx with
  | none =>
    cases mx' with
    | some _ => exact h3.elim
    | none =>
      simp only [bnd, Option.some.injEq] at hm
      subst hm
      cases hi with
      | none =>
        cases hi' with
        | some _ => exact h2.elim
        | none =>
          simp only [bnd, Option.some.injEq] at hh
          subst hh
          cases lo with
          | none =>
            cases lo' with
            | some _ => exact h1.elim
            | none =>
              simp only [bnd, Option.some.injEq] at hl0
              subst hl0
              refine ⟨by omega, hl, Nat.le_refl _, fun _ => rfl, ?_⟩
              simp [Instr.sliceBounds]
          | some x =>
            cases lo' with
            | none => exact h1.elim
            | some x' =>
              obtain ⟨q1, q2⟩ := bnd_spec (P := P) (w := w) h1 hl0 (Nat.le_refl _) .sliceB
              refine ⟨q1, hl, Nat.le_refl _, fun _ => rfl, ?_⟩
              simp [Instr.sliceBounds, q2]
      | some y =>
        cases hi' with
        | none => exact h2.elim
        | some y' =>
          obtain ⟨p1, p2⟩ := bnd_spec (P := P) (w := w) h2 hh hc (if isS then .sliceAcap else .sliceAlen)
          cases lo with
          | none =>
            cases lo' with
            | some _ => exact h1.elim
            | none =>
              simp only [bnd, Option.some.injEq] at hl0
              subst hl0
              refine ⟨by omega, p1, Nat.le_refl _, fun _ => rfl, ?_⟩
              simp [Instr.sliceBounds, p2]
          | some x =>
            cases lo' with
            | none => exact h1.elim
            | some x' =>
              obtain ⟨q1, q2⟩ := bnd_spec (P := P) (w := w) h1 hl0 (Nat.le_refl _) .sliceB
              refine ⟨q1, p1, Nat.le_refl _, fun _ => rfl, ?_⟩
              simp [Instr.sliceBounds, q2, p2]
  | some z =>
    cases mx' with
    | none => exact h3.elim
    | some z' =>
      obtain ⟨r1, r2⟩ := bnd_spec (P := P) (w := w) h3 hm hc (if isS then .slice3Acap else .slice3Alen)
      cases hi with
      | none => exact absurd ⟨rfl, rfl⟩ hmx
      | some y =>
        cases hi' with
        | none => exact h2.elim
        | some y' =>
          obtain ⟨p1, p2⟩ := bnd_spec (P := P) (w := w) h2 hh (Nat.le_refl _) .slice3B
          cases lo with
          | none =>
            cases lo' with
            | some _ => exact h1.elim
            | none =>
              simp only [bnd, Option.some.injEq] at hl0
              subst hl0
              refine ⟨by omega, p1, r1, fun h => by simp at h, ?_⟩
              simp [Instr.sliceBounds, p2, r2]
          | some x =>
            cases lo' with
            | none => exact h1.elim
            | some x' =>
              obtain ⟨q1, q2⟩ := bnd_spec (P := P) (w := w) h1 hl0 (Nat.le_refl _) .slice3C
              refine ⟨q1, p1, r1, fun h => by simp at h, ?_⟩
              simp [Instr.sliceBounds, q2, p2, r2]

theorem ok_sl {t e : TypeId} {x : Operand} {lo hi mx : Option Operand} {a : AO} {l h m : Option AO} {i : TypeInfo} (ho : o.op = .slice t x lo hi mx) (hd : P.underlying t = some (.slice e)) (hi' : P.info? e = some i)
    (hx : trO x = some a) (h1 : trOO lo = some l) (h2 : trOO hi = some h) (h3 : trOO mx = some m) (hm : ¬ (m.isSome = true ∧ h.isNone = true)) : OpOk P o (.sl i.size a l h m) :=
  .same fun CR F w0 ι _ ρ H w act v H' R RR he => by
    have r1 := trO_rel RR hx
    have q1 := optO RR h1
    have q2 := optO RR h2
    have q3 := optO RR h3
    simp only [evOp] at he
    generalize hX : act.eval x = X at r1
    generalize a.ev ρ = A at r1 he
    have mk : (Instr.sliceAt t X (lo.map act.eval) (hi.map act.eval) (mx.map act.eval)).run P w = (Instr.slice t X (lo.map act.eval) (hi.map act.eval) (mx.map act.eval)).run P w := by
      simp [Instr.sliceAt, run_underlying hd]
    cases r1 <;> try (simp at he; done)
    · dsimp only at he
      split at he
      · rename_i l0 h0 m0 hs
        split at he
        · cases he
        · simp only [Option.some.injEq, Prod.mk.injEq] at he
          obtain ⟨rfl, rfl⟩ := he
          obtain ⟨p1, p2, p3, p4, p5⟩ := sliceB_spec (P := P) (w := w) true q1 q2 q3 hs (Nat.le_refl _) (Nat.le_refl 0) (by simpa using hm)
          obtain ⟨rfl, rfl, rfl⟩ : l0 = 0 ∧ h0 = 0 ∧ m0 = 0 := by omega
          refine ⟨rfl, .slice none 0 0, ?_, by simpa using VRel.sliceN _⟩
          simp only [execOp, ho]
          refine run_v ?_
          rw [hX, mk]
          simp [Instr.slice, run_underlying hd, p5, rSize w hi']
      · cases he
    · rename_i b i' g o' N len cap cap' sz hb c1 c2 c3 c4
      dsimp only at he
      split at he
      · rename_i l0 h0 m0 hs
        split at he
        · cases he
        · rename_i hnot
          simp only [Option.some.injEq, Prod.mk.injEq] at he
          obtain ⟨rfl, rfl⟩ := he
          have hsz : sz = i.size := by
            by_cases e : sz = i.size
            · exact e
            · exact absurd (.inr ⟨rfl, e⟩) hnot
          subst hsz
          obtain ⟨p1, p2, p3, p4, p5⟩ := sliceB_spec (P := P) (w := w) true q1 q2 q3 hs c1 c2 (by simpa using hm)
          let M := if (Option.map (fun x => x.ev ρ) m).isSome = true then m0 else cap'
          have hM : m0 ≤ M := by
            show m0 ≤ if _ then _ else _
            split <;> omega
          have hMc : M ≤ cap' := by
            show (if _ then _ else _) ≤ cap'
            split <;> omega
          have hrun : ∀ u, u = (Value.slice (if M = l0 then some ⟨g, o' + i', none⟩ else some ((⟨g, o' + i', none⟩ : Addr).add (l0 * i.size))) (h0 - l0) (M - l0)) → (execOp act.eval o).run P w = .ok (.value u) w := by
            intro u hu
            simp only [execOp, ho]
            refine run_v ?_
            rw [hX, mk]
            simp only [Instr.slice, Sem.run_bind, run_underlying hd, Result.andThen_ok, p5, rSize w hi', Sem.run_pure]
            rw [hu]
            rfl
          have hroom : l0 * i.size + (M - l0) * i.size ≤ cap' * i.size := by
            rw [← Nat.add_mul]
            exact Nat.mul_le_mul_right _ (by omega)
          by_cases hml : m0 = l0
          · have hM2 : M = l0 := by
              show (if _ then _ else _) = _
              split
              · exact hml
              · rename_i hmx
                have hcap : cap = 0 := by
                  rcases Nat.eq_zero_or_pos cap with h0 | h0
                  · exact h0
                  · exact absurd (.inl ⟨hml, by omega, by simpa using hmx⟩) hnot
                have := c3 hcap
                omega
            refine ⟨rfl, _, hrun _ rfl, ?_⟩
            rw [if_pos hml, if_pos hM2]
            refine .slice b i' g o' N _ _ _ _ hb (by omega) (by omega) (by omega) ?_
            rw [hM2]
            simp
            omega
          · have hM2 : M ≠ l0 := by omega
            refine ⟨rfl, _, hrun _ rfl, ?_⟩
            rw [if_neg hml, if_neg hM2, addr_add, Nat.add_assoc]
            exact .slice b _ g o' N _ _ _ _ hb (by omega) (by omega) (by omega) (by omega)
      · cases he

theorem ok_slStr {t : TypeId} {x : Operand} {lo hi mx : Option Operand} {a : AO} {l h : Option AO} (ho : o.op = .slice t x lo hi mx) (hd : P.underlying t = some .string)
    (hx : trO x = some a) (h1 : trOO lo = some l) (h2 : trOO hi = some h) (h3 : trOO mx = some none) : OpOk P o (.slStr a l h) :=
  .same fun CR F w0 ι _ ρ H w act v H' R RR he => by
    have r1 := trO_rel RR hx
    have q1 := optO RR h1
    have q2 := optO RR h2
    have hmx : mx = none := by
      cases mx with
      | none => rfl
      | some z => simp only [trOO] at h3; split at h3 <;> simp at h3
    subst hmx
    simp only [evOp] at he
    generalize hX : act.eval x = X at r1
    generalize a.ev ρ = A at r1 he
    cases r1 <;> try (simp at he; done)
    rename_i s S hS
    dsimp only at he
    split at he
    · rename_i l0 h0 m0 hs
      simp only [Option.some.injEq, Prod.mk.injEq] at he
      obtain ⟨rfl, rfl⟩ := he
      have hlen : s.length = S.size := by subst hS; simp
      rw [hlen] at hs
      obtain ⟨p1, p2, p3, p4, p5⟩ := sliceB_spec (P := P) (w := w) (mx := none) (mx' := none) false q1 q2 trivial hs (Nat.le_refl _) (Nat.le_refl _) (by simp)
      refine ⟨rfl, .string (S.extract l0 h0), ?_, .str _ _ ?_⟩
      · simp only [execOp, ho]
        refine run_v ?_
        simp [hX, Instr.sliceAt, Instr.slice, run_underlying hd, p5]
      · subst hS
        rw [ByteArray.data_extract, Array.toList_extract, List.extract_eq_take_drop, List.map_take, List.map_drop]
    · cases he

theorem ok_slArr {t e : TypeId} {n : Nat} {x : Operand} {lo hi mx : Option Operand} {a : AO} {l h m : Option AO} {i : TypeInfo} (ho : o.op = .slice t x lo hi mx) (hd : P.underlying t = some (.array n e)) (hi' : P.info? e = some i)
    (hx : trO x = some a) (h1 : trOO lo = some l) (h2 : trOO hi = some h) (h3 : trOO mx = some m) (hm : ¬ (m.isSome = true ∧ h.isNone = true)) : OpOk P o (.slArr n i.size a l h m) :=
  .same fun CR F w0 ι _ ρ H w act v H' R RR he => by
    have r1 := trO_rel RR hx
    have q1 := optO RR h1
    have q2 := optO RR h2
    have q3 := optO RR h3
    simp only [evOp] at he
    generalize hX : act.eval x = X at r1
    generalize a.ev ρ = A at r1 he
    cases r1 <;> try (simp at he; done)
    rename_i b i' g o' N hb
    dsimp only at he
    split at he
    · rename_i l0 h0 m0 hs
      split at he <;> try (cases he; done)
      rename_i own vs hg
      split at he <;> try (cases he; done)
      rename_i hfit
      simp only [Option.some.injEq, Prod.mk.injEq] at he
      obtain ⟨rfl, rfl⟩ := he
      obtain ⟨p1, p2, p3, p4, p5⟩ := sliceB_spec (P := P) (w := w) false q1 q2 q3 hs (Nat.le_refl _) (Nat.le_refl _) (by simpa using hm)
      have hM : (if (Option.map (fun x => x.ev ρ) m).isSome = true then m0 else n) = m0 := by
        split
        · rfl
        · rename_i hn
          exact (p4 (by simpa using hn)).symm
      rw [hM] at p5
      refine ⟨rfl, .slice (some (if m0 = l0 then ⟨g, o' + i', none⟩ else (⟨g, o' + i', none⟩ : Addr).add (l0 * i.size))) (h0 - l0) (m0 - l0), ?_, ?_⟩
      · simp only [execOp, ho]
        refine run_v ?_
        simp only [hX, Instr.sliceAt, Instr.sureAddr, Sem.run_bind, run_underlying hd, Result.andThen_ok, Sem.run_pure, p5, rSize w hi']
      · have hroom : l0 * i.size + (m0 - l0) * i.size ≤ n * i.size := by
          rw [← Nat.add_mul]
          exact Nat.mul_le_mul_right _ (by omega)
        have hN := R.fits hg hb
        split
        · rename_i hml
          refine .slice b i' g o' N _ _ _ _ hb (by omega) (by omega) (by omega) ?_
          rw [hml]
          simp
          omega
        · rw [addr_add, Nat.add_assoc]
          refine .slice b _ g o' N _ _ _ _ hb (by omega) (by omega) (by omega) ?_
          omega
    · cases he

/-! ### Parts of values -/
theorem run_part {P : Program} {ι : Inj} {w : World} {t : TypeId} {d : TypeDesc} {i : TypeInfo} {cs : List AVal} {cs' : List Value} {off : Nat} {r : AVal} (hd : P.underlying t = some d) (hi : P.info? t = some i) (hr : VsRel ι cs cs')
    (h : (if isAggD d then some (AVal.agg ((cs.drop off).take i.size)) else cs[off]?) = some r) : ∃ v', (part t cs'.toArray off).run P w = .ok v' w ∧ VRel ι r v' := by
  unfold part
  simp only [Sem.run_bind, rAgg w hd, Result.andThen_ok]
  split at h
  · rename_i ha
    injection h with h
    subst h
    refine ⟨_, ?_, VRel.agg _ _ ((hr.drop off).take i.size)⟩
    simp only [ha, if_true, Sem.run_bind, rSize w hi, Result.andThen_ok, Sem.run_pure]
    congr 2
    rw [List.extract_toArray, List.extract_eq_take_drop]
    congr 2
    omega
  · rename_i ha
    obtain ⟨v', h1, h2⟩ := hr.get off r h
    refine ⟨v', ?_, h2⟩
    simp [ha, h1]

theorem ok_fld {t : TypeId} {x : Operand} {a : AO} {k : Nat} {fs : Array Field} {f : Field} {N : Option Nat} (ho : o.op = .field t x k) (hd : P.underlying t = some (.struct fs)) (hf : fs[k]? = some f)
    (hN : trN P f.type = some N) (hx : trO x = some a) : OpOk P o (.fld f.offset N a) :=
  .same fun CR F w0 ι _ ρ H w act v H' R RR he => by
    have h1 := trO_rel RR hx
    simp only [evOp] at he
    generalize hX : act.eval x = X at h1
    generalize a.ev ρ = A at h1 he
    cases h1 <;> try (simp at he; done)
    rename_i cs cs' hc
    unfold trN at hN
    split at hN
    · rename_i d i hd' hi
      injection hN with hN
      have key : ∀ r, (if isAggD d then some (AVal.agg ((cs.drop f.offset).take i.size)) else cs[f.offset]?) = some r → ∃ v', (execOp act.eval o).run P w = .ok (.value v') w ∧ VRel ι r v' := by
        intro r hr
        obtain ⟨v', h2, h3⟩ := run_part (P := P) (w := w) hd' hi hc hr
        refine ⟨v', ?_, h3⟩
        simp only [execOp, ho]
        refine run_v ?_
        simp [Instr.field, run_underlying hd, hf, hX, asAgg, h2]
      dsimp only at he
      subst hN
      by_cases ha : isAggD d = true
      · simp only [ha, if_true] at he key
        split at he
        · simp only [Option.some.injEq, Prod.mk.injEq] at he
          obtain ⟨rfl, rfl⟩ := he
          exact ⟨rfl, key _ rfl⟩
        · cases he
      · rw [Bool.not_eq_true] at ha
        simp only [ha, Bool.false_eq_true, if_false] at he key
        split at he
        · rename_i u hu
          simp only [Option.some.injEq, Prod.mk.injEq] at he
          obtain ⟨rfl, rfl⟩ := he
          exact ⟨rfl, key _ hu⟩
        · cases he
    · cases hN

theorem ok_idxArr {t e : TypeId} {x y : Operand} {a b : AO} {i : TypeInfo} {n : Nat} {d : TypeDesc} (ho : o.op = .index t x y) (hd : P.underlying t = some (.array n e)) (hi : P.info? e = some i) (hd' : P.underlying e = some d)
    (hx : trO x = some a) (hy : trO y = some b) : OpOk P o (.idxArr n i.size (!isAggD d) a b) :=
  .same fun CR F w0 ι _ ρ H w act v H' R RR he => by
    have h1 := trO_rel RR hx
    have h2 := trO_rel RR hy
    simp only [evOp] at he
    generalize hX : act.eval x = X at h1
    generalize hY : act.eval y = Y at h2
    generalize a.ev ρ = A at h1 he
    generalize b.ev ρ = B at h2 he
    cases h1 <;> try (simp at he; done)
    cases h2 <;> try (simp at he; done)
    rename_i cs cs' hc k m
    dsimp only at he
    split at he
    · rename_i hb
      have key : ∀ r, (if isAggD d then some (AVal.agg ((cs.drop (m.toNat * i.size)).take i.size)) else cs[m.toNat * i.size]?) = some r → ∃ v', (execOp act.eval o).run P w = .ok (.value v') w ∧ VRel ι r v' := by
        intro r hr
        obtain ⟨v', h3, h4⟩ := run_part (P := P) (w := w) hd' hi hc hr
        refine ⟨v', ?_, h4⟩
        simp only [execOp, ho]
        refine run_v ?_
        simp [Instr.index, run_underlying hd, hX, hY, asIntOf, hb, rSize w hi, h3]
      by_cases ha : isAggD d = true
      · simp only [ha, Bool.not_true, if_true, Bool.false_eq_true, if_false, Option.some.injEq, Prod.mk.injEq] at he key
        obtain ⟨rfl, rfl⟩ := he
        exact ⟨rfl, key _ rfl⟩
      · simp only [ha, Bool.not_false, if_true, Bool.false_eq_true, if_false] at he key
        split at he
        · rename_i u hu
          simp only [Option.some.injEq, Prod.mk.injEq] at he
          obtain ⟨rfl, rfl⟩ := he
          exact ⟨rfl, key _ hu⟩
        · cases he
    · cases he

theorem trZ_spec {P : Program} {t : TypeId} {z : AVal} (h : trZ P t = some z) : ∃ i zv, P.info? t = some i ∧ i.zero = some zv ∧ ∀ ι, VRel ι z zv := by
  unfold trZ at h
  split at h
  · rename_i i hi
    split at h
    · rename_i zv hz
      exact ⟨i, zv, hi, hz, fun ι => trV_rel ι 4 zv z h⟩
    · cases h
  · cases h

theorem ok_ta {t u : TypeId} {x : Operand} {a : AO} {z : AVal} {ok : Bool} {d : TypeDesc} (ho : o.op = .typeAssert x u t ok) (hd : P.underlying t = some d) (hn : ∀ ms, d ≠ .interface ms) (hz : trZ P t = some z) (hx : trO x = some a) : OpOk P o (.ta t z ok a) :=
  .same fun CR F w0 ι _ ρ H w act v H' R RR he => by
    have h1 := trO_rel RR hx
    obtain ⟨i, zv, hi, hzv, hzr⟩ := trZ_spec hz
    simp only [evOp] at he
    generalize hX : act.eval x = X at h1
    generalize a.ev ρ = A at h1 he
    have fails : ∀ s dn, (X = .nilIface ∧ dn = none ∨ ∃ t' v', X = .iface t' v' ∧ t' ≠ t ∧ dn = some t') → s = some u → ok = true → (execOp act.eval o).run P w = .ok (.value (.tuple #[zv, .bool false])) w := by
      intro s dn hcase _ hok
      subst hok
      simp only [execOp, ho]
      refine run_v ?_
      rcases hcase with ⟨rfl, _⟩ | ⟨t', v', rfl, hne, _⟩
      · simp only [hX, Instr.typeAssert, Sem.run_bind, run_underlying hd, Result.andThen_ok]
        cases d <;> first | exact absurd rfl (hn _) | simp [rZero w hi hzv]
      · simp only [hX, Instr.typeAssert, Sem.run_bind, run_underlying hd, Result.andThen_ok]
        cases d <;> first | exact absurd rfl (hn _) | simp [rZero w hi hzv, hne]
    have hres : VRel ι (.tup [z, .bool false]) (.tuple #[zv, .bool false]) := .tup _ [zv, .bool false] (.cons _ _ _ _ (hzr ι) (.cons _ _ _ _ (.bool _) .nil))
    cases h1 <;> try (simp at he; done)
    · rename_i t' v0 v0' hv
      dsimp only at he
      split at he
      · rename_i ht
        subst ht
        simp only [Option.some.injEq, Prod.mk.injEq] at he
        obtain ⟨rfl, rfl⟩ := he
        refine ⟨rfl, if ok then .tuple #[v0', .bool true] else v0', ?_, ?_⟩
        · simp only [execOp, ho]
          refine run_v ?_
          simp only [hX, Instr.typeAssert, Sem.run_bind, run_underlying hd, Result.andThen_ok]
          cases d <;> first | exact absurd rfl (hn _) | simp
        · cases ok
          · exact hv
          · exact .tup _ [v0', .bool true] (.cons _ _ _ _ hv (.cons _ _ _ _ (.bool _) .nil))
      · rename_i ht
        split at he
        · rename_i hok
          simp only [Option.some.injEq, Prod.mk.injEq] at he
          obtain ⟨rfl, rfl⟩ := he
          exact ⟨rfl, _, fails _ _ (.inr ⟨_, _, rfl, ht, rfl⟩) rfl hok, hres⟩
        · cases he
    · dsimp only at he
      split at he
      · rename_i hok
        simp only [Option.some.injEq, Prod.mk.injEq] at he
        obtain ⟨rfl, rfl⟩ := he
        exact ⟨rfl, _, fails _ _ (.inl ⟨rfl, rfl⟩) rfl hok, hres⟩
      · cases he

/-! ### Builtins that read no row -/
theorem exec_builtin {ρ : Operand → Value} {b : Builtin} {args : Array Operand} {ts : Array TypeId} (ho : o.op = .call { callee := .builtin b, args := args, argTypes := ts }) :
    execOp ρ o = builtin b ts o.type (args.map fun | .const _ => true | _ => false) (args.map ρ) := by
  simp only [execOp, ho, resolve, invoke]
  rfl

/-- The kinds of what 'len' is asked of. -/
inductive LenKind : LK → TypeDesc → Prop where
  | str : LenKind .str .string
  | slice (e : TypeId) : LenKind .slice (.slice e)
  | map (k e : TypeId) : LenKind .map (.map k e)

theorem ERel.length {ι : Inj} {es : List (AVal × AVal)} {es' : List MapEntry} (h : ERel ι es es') : es.length = es'.length := by
  induction h with
  | nil => rfl
  | cons _ _ _ _ _ _ _ _ ih => simp [ih]
theorem Rel.mapAt {CR : CodeRel} {F : Nat → Option Obj} {w0 : World} {ι : Inj} {H : AH} {w : World} (R : Rel CR F w0 ι H w) {b g N : Nat} {es : List (AVal × AVal)} (hg : H.get b = some (.map es)) (hi : ι b = some (g, 0, N)) :
    ∃ es' clock, w.heap[g]? = some (.map es' clock) ∧ ERel ι es es'.toList := by
  obtain ⟨g', off, N', x, e1, e2, e3⟩ := R.blk b _ hg rfl
  rw [hi] at e1
  injection e1 with e1
  injection e1 with ea eb
  injection eb with eb ec
  subst ea eb ec
  cases e3 with
  | map _ es' clock hr => exact ⟨es', clock, e2, hr⟩
theorem run_getObj_map {P : Program} {w : World} {g : Nat} {es : Array MapEntry} {c : Nat} (h : w.heap[g]? = some (.map es c)) : (getObj g).run P w = .ok (.map es c) w := by
  simp [getObj, Sem.run, h]

theorem ok_len {k : LK} {args : Array Operand} {ts : Array TypeId} {t : TypeId} {d : TypeDesc} {x : Operand} {a : AO} (ho : o.op = .call { callee := .builtin .len, args := args, argTypes := ts }) (ht : ts[0]? = some t) (hx0 : args[0]? = some x)
    (hd : P.underlying t = some d) (hk : LenKind k d) (hx : trO x = some a) : OpOk P o (.len k a) :=
  .same fun CR F w0 ι _ ρ H w act v H' R RR he => by
    have h1 := trO_rel RR hx
    simp only [evOp] at he
    split at he
    · rename_i n hn
      simp only [Option.some.injEq, Prod.mk.injEq] at he
      obtain ⟨rfl, rfl⟩ := he
      refine ⟨rfl, .int .i64 n, ?_, .int _ _⟩
      rw [exec_builtin ho]
      simp only [builtin]
      refine run_v ?_
      have hx1 : (Array.map act.eval args)[0]? = some (act.eval x) := by simp [hx0]
      generalize hX : act.eval x = X at h1
      generalize a.ev ρ = A at h1 hn
      rw [hX] at hx1
      unfold Builtin.len_
      simp only [ht, hx1, Sem.run_bind, run_underlying hd, Result.andThen_ok]
      cases hk with
      | str =>
        cases h1 <;> try (simp [lenV] at hn; done)
        rename_i l s hl
        subst hl
        simp only [lenV, Option.some.injEq] at hn
        subst hn
        simp [goInt]
      | slice e =>
        cases h1 <;> try (simp [lenV] at hn; done)
        all_goals
          simp only [lenV, Option.some.injEq] at hn
          subst hn
          simp [goInt]
      | map q e =>
        cases h1 <;> try (simp [lenV] at hn; done)
        · simp only [lenV, Option.some.injEq] at hn
          subst hn
          simp [goInt]
        · rename_i b g N hb
          simp only [lenV] at hn
          split at hn
          · rename_i es hg
            injection hn with hn
            subst hn
            obtain ⟨es', c, e1, e2⟩ := R.mapAt hg hb
            simp [run_getObj_map e1, goInt, e2.length]
          · cases hn
    · cases he

theorem ok_lenArr {args : Array Operand} {ts : Array TypeId} {t e : TypeId} {n : Nat} {x : Operand} (ho : o.op = .call { callee := .builtin .len, args := args, argTypes := ts }) (ht : ts[0]? = some t) (hx0 : args[0]? = some x)
    (hd : P.underlying t = some (.array n e)) : OpOk P o (.lenArr n) :=
  .same fun CR F w0 ι _ ρ H w act v H' R RR he => by
    simp only [evOp, Option.some.injEq, Prod.mk.injEq] at he
    obtain ⟨rfl, rfl⟩ := he
    refine ⟨rfl, .int .i64 n, ?_, .int _ _⟩
    rw [exec_builtin ho]
    simp only [builtin]
    refine run_v ?_
    have hx1 : (Array.map act.eval args)[0]? = some (act.eval x) := by simp [hx0]
    unfold Builtin.len_
    simp only [ht, hx1, Sem.run_bind, run_underlying hd, Result.andThen_ok]
    simp [goInt]

theorem optMap_two {l : List Operand} {x y : AO} (h : optMap trO l = some [x, y]) : ∃ p q, l = [p, q] ∧ trO p = some x ∧ trO q = some y := by
  match l with
  | [] => simp [optMap] at h
  | [p] =>
    simp only [optMap] at h
    split at h <;> simp_all
  | [p, q] =>
    simp only [optMap] at h
    cases hp : trO p with
    | none => simp [hp] at h
    | some a =>
      cases hq : trO q with
      | none => simp [hp, hq] at h
      | some b =>
        simp only [hp, hq, Option.some.injEq, List.cons.injEq, and_true] at h
        exact ⟨p, q, rfl, by rw [hp, h.1], by rw [hq, h.2]⟩
  | p :: q :: r :: l =>
    exfalso
    obtain ⟨h1, _⟩ := optMap_spec h
    simp at h1

theorem ok_min {args : Array Operand} {ts : Array TypeId} {l : List AO} (ho : o.op = .call { callee := .builtin .min, args := args, argTypes := ts }) (hl : optMap trO args.toList = some l) : OpOk P o (.min l) :=
  .same fun CR F w0 ι _ ρ H w act v H' R RR he => by
    unfold evOp at he
    split at he <;> try (cases he; done)
    all_goals rename_i heq
    all_goals try (simp at heq; done)
    rename_i x y
    simp only [AOp.min.injEq] at heq
    subst heq
    obtain ⟨p, q, hpq, hp, hq⟩ := optMap_two hl
    have h1 := trO_rel RR hp
    have h2 := trO_rel RR hq
    generalize hX : act.eval p = X at h1
    generalize hY : act.eval q = Y at h2
    generalize x.ev ρ = A at h1 he
    generalize y.ev ρ = B at h2 he
    cases h1 <;> try (simp at he; done)
    cases h2 <;> try (simp at he; done)
    rename_i k m k' m'
    simp only [Option.some.injEq, Prod.mk.injEq] at he
    obtain ⟨rfl, rfl⟩ := he
    refine ⟨rfl, _, ?_, .int _ _⟩
    rw [exec_builtin ho]
    simp only [builtin]
    refine run_v ?_
    have : (Array.map act.eval args).toList = [.int k m, .int k' m'] := by simp [hpq, hX, hY]
    unfold Builtin.min_
    rw [this]
    simp [Builtin.min2]

theorem ok_max {args : Array Operand} {ts : Array TypeId} {l : List AO} (ho : o.op = .call { callee := .builtin .max, args := args, argTypes := ts }) (hl : optMap trO args.toList = some l) : OpOk P o (.max l) :=
  .same fun CR F w0 ι _ ρ H w act v H' R RR he => by
    unfold evOp at he
    split at he <;> try (cases he; done)
    all_goals rename_i heq
    all_goals try (simp at heq; done)
    rename_i x y
    simp only [AOp.max.injEq] at heq
    subst heq
    obtain ⟨p, q, hpq, hp, hq⟩ := optMap_two hl
    have h1 := trO_rel RR hp
    have h2 := trO_rel RR hq
    generalize hX : act.eval p = X at h1
    generalize hY : act.eval q = Y at h2
    generalize x.ev ρ = A at h1 he
    generalize y.ev ρ = B at h2 he
    cases h1 <;> try (simp at he; done)
    cases h2 <;> try (simp at he; done)
    rename_i k m k' m'
    simp only [Option.some.injEq, Prod.mk.injEq] at he
    obtain ⟨rfl, rfl⟩ := he
    refine ⟨rfl, _, ?_, .int _ _⟩
    rw [exec_builtin ho]
    simp only [builtin]
    refine run_v ?_
    have : (Array.map act.eval args).toList = [.int k m, .int k' m'] := by simp [hpq, hX, hY]
    unfold Builtin.max_
    rw [this]
    simp [Builtin.max2]
end ops
end Rst
