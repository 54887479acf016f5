/- A verified abstract machine for this program, contracts of its functions, and rows: OpsE, OpsF. -/
import Derived.Test.YtdpadejfbnbjiaaGreatDoorC
import Derived.Laws.BytesArg
import Derived.Laws.Append
/- What each translated operation does in the model: strings and bytes, append, copy, clear. -/
set_option linter.unusedVariables false
set_option linter.unusedSimpArgs false
namespace Rst
open Go

theorem bytesIn_spec : ∀ {cs : List AVal} {l : List Nat}, bytesIn cs = some l → ∃ xs : List Int, cs = xs.map (.int .u8) ∧ l = xs.map (fun n => n.toNat % 256) := by
  intro cs
  induction cs with
  | nil => intro l h; simp [bytesIn] at h; subst h; exact ⟨[], rfl, rfl⟩
  | cons c cs ih =>
    intro l h
    unfold bytesIn at h
    split at h
    · rename_i h1; cases h1
    · rename_i n r h1
      injection h1 with h1 h2
      subst h1 h2
      cases hb : bytesIn cs with
      | none => rw [hb] at h; simp at h
      | some l' =>
        rw [hb] at h
        simp at h
        obtain ⟨xs, h3, h4⟩ := ih hb
        exact ⟨n :: xs, by simp [h3], by simp [← h, h4]⟩
    · cases h
theorem VsRel.ints {ι : Inj} {k : IntKind} : ∀ {xs : List Int} {l : List Value}, VsRel ι (xs.map (.int k)) l → l = xs.map (.int k) := by
  intro xs
  induction xs with
  | nil => intro l h; cases h; rfl
  | cons x xs ih =>
    intro l h
    cases h with
    | cons _ v' _ vs' r rs => cases r; simp [ih rs]
theorem VsRel.of_ints {ι : Inj} {k : IntKind} : ∀ (xs : List Int), VsRel ι (xs.map (.int k)) (xs.map (.int k)) := by
  intro xs
  induction xs with
  | nil => exact .nil
  | cons x xs ih => exact .cons _ _ _ _ (.int _ _) ih

section ops
variable {P : Program} {o : Oper}

theorem ok_convBS {src t e : TypeId} {x : Operand} {a : AO} (ho : o.op = .convert src t x) (hs : P.underlying src = some (.slice e)) (he' : P.underlying e = some (.int .u8)) (hd : P.underlying t = some .string) (hx : trO x = some a) : OpOk P o (.convBS a) :=
  .same fun CR F w0 ι n ρ H w act v H' R RR he => by
    have h1 := trO_rel RR hx
    simp only [evOp] at he
    generalize hX : act.eval x = X at h1
    generalize a.ev ρ = A at h1 he
    cases h1 <;> try (simp at he; done)
    · simp only [Option.some.injEq, Prod.mk.injEq] at he
      obtain ⟨rfl, rfl⟩ := he
      refine ⟨rfl, .string ByteArray.empty, ?_, .str _ _ rfl⟩
      simp only [execOp, ho]
      refine run_v ?_
      rw [hX]
      exact run_convert_bytes_nil w src e hs he' 0 0 t hd
    · rename_i b i g o' N len cap cap' sz hb c1 c2 c3 c4
      dsimp only at he
      split at he
      · rename_i cs hcs
        split at he
        · rename_i l hl
          simp only [Option.some.injEq, Prod.mk.injEq] at he
          obtain ⟨rfl, rfl⟩ := he
          obtain ⟨xs, rfl, rfl⟩ := bytesIn_spec hl
          obtain ⟨l', q1, q2, q3⟩ := R.cellsN hcs hb
          have q4 := VsRel.ints q2
          subst q4
          refine ⟨rfl, .string (strOfNums xs), ?_, .str _ _ ?_⟩
          · simp only [execOp, ho]
            refine run_v ?_
            rw [hX]
            refine run_convert_bytes_arg w src e hs he' g (o' + i) len cap' xs (by simpa using q1) (fun j hj => ?_) t hd
            have hj' : j < xs.length := by simp at q1; omega
            have := q3 j (.int .u8 (xs.getD j 0)) (by simp [List.getElem?_eq_getElem hj', List.getD_eq_getElem?_getD])
            rwa [addr_add] at this
          · rw [strOfNums_data]
            simp
        · cases he
      · cases he

theorem ok_convSB {src t e : TypeId} {x : Operand} {a : AO} (ho : o.op = .convert src t x) (hs : P.underlying src = some .string) (hd : P.underlying t = some (.slice e)) (he' : P.underlying e = some (.int .u8)) (hx : trO x = some a) : OpOk P o (.convSB a) := by
  intro CR F w0 ι n ρ H w act v H' R RR he
  have h1 := trO_rel RR hx
  simp only [evOp] at he
  generalize hX : act.eval x = X at h1
  generalize a.ev ρ = A at h1 he
  cases h1 <;> try (simp at he; done)
  rename_i l s hl
  dsimp only at he
  split at he
  · cases he
  · rename_i hne
    simp only [Option.some.injEq, Prod.mk.injEq] at he
    obtain ⟨rfl, rfl⟩ := he
    have hls : l.length = s.size := by subst hl; simp
    -- the capacity that is drawn
    let q : Question := .appendCap s.size 0 e
    let cap := q.cut (w.tape w.drawn q)
    have hcap : s.size ≤ cap := Nat.le_add_right _ _
    let C : Array Value := (s.data.map fun b => Value.int .u8 b.toNat) ++ Array.replicate (cap - s.size) (.int .u8 0)
    have hCs : C.size = cap := by
      show (_ ++ _ : Array Value).size = cap
      simp
      have : s.data.size = s.size := rfl
      omega
    let w1 : World := { w.drew with heap := w.drew.heap.push (.cells C e (cap, cap + 1)) }
    have hrun : (convert src t (.string s)).run P w = .ok (.slice (some ⟨w.heap.size, 0, none⟩) s.size cap) (w.drew.alloc (.cells C e (cap, cap + 1))) := by
      simp only [convert, Sem.run_bind, run_underlying hs, run_underlying hd, Result.andThen_ok, run_underlying he']
      unfold Conv.stringToBytes
      have hch : (choose q).run P w = .ok cap w.drew := by
        show Sem.run P (Sem.choose q .pure) w = _
        simp only [Sem.run]
        rw [if_neg (by simp [q, Question.forced])]
        rfl
      simp only [Sem.run_bind]
      rw [show (choose (.appendCap s.size 0 e)).run P w = .ok cap w.drew from hch]
      simp only [Result.andThen_ok, newRow, Sem.run_bind, run_newObj, Sem.run_pure, markStringish, run_shape]
      have hsh : World.shape? { w.drew with heap := w.drew.heap.push (.cells C e) } w.drew.heap.size = some (e, C.size) := by
        show (match (w.heap.push (.cells C e))[w.heap.size]? with | some (.cells c elem _) => some (elem, c.size) | _ => none) = _
        simp
      rw [show World.shape? { w.drew with heap := w.drew.heap.push (.cells ((s.data.map fun b => Value.int .u8 b.toNat) ++ Array.replicate (cap - s.size) (.int .u8 0)) e) } w.drew.heap.size = some (e, C.size) from hsh]
      simp only [run_freeze, Result.andThen_ok]
      congr 1
      simp only [World.freeze, World.alloc]
      rw [if_neg (by omega)]
      congr 1
      rw [hCs]
      apply Array.ext_getElem?
      intro k
      simp only [Array.getElem?_modify, Array.getElem?_push]
      have hdr : w.drew.heap = w.heap := rfl
      rw [hdr]
      by_cases hk : k = w.heap.size
      · subst hk; simp [C]
      · rw [if_neg hk, if_neg hk, if_neg (Ne.symm hk)]
    have hbr : BRel CR ι (.cells true (l.map fun (b : Nat) => .int .u8 (b : Int))) 0 C.size (.cells C e (cap, cap + 1)) := by
      refine .cells _ _ 0 C e _ ?_ ?_ ?_
      · intro i v hv
        rw [List.getElem?_map, Option.map_eq_some_iff] at hv
        obtain ⟨b, hb1, rfl⟩ := hv
        subst hl
        rw [List.getElem?_map, Option.map_eq_some_iff] at hb1
        obtain ⟨c, hc1, rfl⟩ := hb1
        refine ⟨.int .u8 c.toNat, ?_, .int _ _⟩
        have hi : i < s.data.size := by
          have := (List.getElem?_eq_some_iff.1 hc1).1
          simpa using this
        rw [Nat.zero_add]
        show (_ ++ _ : Array Value)[i]? = _
        rw [Array.getElem?_append_left (by simpa using hi), Array.getElem?_map]
        rw [Array.getElem?_toList] at hc1
        rw [hc1]
        rfl
      · intro _ j hj
        rw [hCs] at hj
        simp only
        omega
      · simp; omega
    simp only [execOp, ho, hX]
    have hle := R.drew.le_upd (w.heap.size, 0, C.size)
    refine ⟨_, _, _, ι.upd H.next (w.heap.size, 0, C.size), run_v hrun, .inl rfl, ?_, R.le_upd _, ?_⟩
    · rw [hls]
      exact .slice _ 0 _ 0 _ _ _ _ _ (upd_same _ _ _) (Nat.le_refl _) hcap (fun h => by omega) (by omega)
    · exact R.drew.alloc hbr rfl

/-! ### Rows that are read whole -/
theorem VsRel.of_map {ι : Inj} : ∀ (l : List UInt8), VsRel ι (l.map ((fun (b : Nat) => AVal.int .u8 (b : Int)) ∘ fun x => x.toNat)) (l.map fun b => Value.int .u8 b.toNat)
  | [] => .nil
  | b :: l => .cons _ _ _ _ (.int _ _) (VsRel.of_map l)

theorem srcCells_spec {CR : CodeRel} {F : Nat → Option Obj} {w0 : World} {ι : Inj} {H : AH} {w : World} (R : Rel CR F w0 ι H w) {sz n : Nat} {x : AVal} {X : Value} {cs : List AVal} (hx : VRel ι x X) (h : srcCells sz H x = some (n, cs)) :
    (Builtin.lenOf X).run P w = .ok n w ∧ cs.length = n * sz ∧ ∃ cs' : List Value, (Builtin.firstCells sz n X).run P w = .ok cs'.toArray w ∧ VsRel ι cs cs' := by
  cases hx <;> try (simp [srcCells] at h; done)
  · rename_i l s hl
    simp only [srcCells] at h
    split at h
    · rename_i h1
      subst h1
      simp only [Option.some.injEq, Prod.mk.injEq] at h
      obtain ⟨rfl, rfl⟩ := h
      have hls : l.length = s.size := by subst hl; simp
      refine ⟨by simp [Builtin.lenOf, hls], by simp, (s.data.toList.map fun b => Value.int .u8 b.toNat), ?_, ?_⟩
      · simp only [Builtin.firstCells, Sem.run_pure]
        congr 1
        rw [hls]
        have : s.extract 0 s.size = s := by
          apply ByteArray.ext
          rw [ByteArray.data_extract]
          exact Array.extract_size
        rw [this]
        apply Array.ext'
        simp
      · subst hl
        rw [List.map_map]
        exact VsRel.of_map s.data.toList
    · cases h
  · simp only [srcCells] at h
    simp only [if_true, Option.some.injEq, Prod.mk.injEq] at h
    obtain ⟨rfl, rfl⟩ := h
    exact ⟨rfl, by simp, [], rfl, .nil⟩
  · rename_i b i g o' N len cap cap' sz' hb c1 c2 c3 c4
    simp only [srcCells, Option.map_eq_some_iff, Prod.mk.injEq] at h
    obtain ⟨l, hl, rfl, rfl⟩ := h
    obtain ⟨l', q1, q2, q3⟩ := R.cellsN hl hb
    refine ⟨rfl, by rw [q2.length, q1], l', ?_, q2⟩
    have := run_loadCells_list (P := P) (w := w) _ l' q3
    rw [q1] at this
    exact this

theorem run_append_fit {argTypes : Array TypeId} {t u e : TypeId} {d : TypeDesc} {i : TypeInfo} {ty : TypeId} {w : World} {X : Value} (h0 : argTypes[0]? = some t) (h1 : argTypes[1]? = some u) (hd : P.underlying t = some (.slice e)) (hu : P.underlying u = some d)
    (hdu : ∀ k, d ≠ .int k) (hi : P.info? e = some i) {base : Option Addr} {sLen sCap n : Nat} (hn : (Builtin.lenOf X).run P w = .ok n w) (hfit : sLen + n ≤ sCap) {cs : List Value} (hc : (Builtin.firstCells i.size n X).run P w = .ok cs.toArray w) {w' : World}
    (hst : (match base with | some a => storeCells (a.add (sLen * i.size)) cs | none => pure ()).run P w = .ok () w') :
    (Builtin.append_ argTypes ty #[.slice base sLen sCap, X]).run P w = .ok (.slice base (sLen + n) sCap) w' := by
  unfold Builtin.append_
  have hz : (match d with | .int _ => true | _ => false) = false := by cases d <;> first | rfl | exact absurd rfl (hdu _)
  simp only [h0, h1, List.getElem?_toArray, List.getElem?_cons_zero, List.getElem?_cons_succ, Sem.run_bind, run_underlying hd, run_underlying hu, Result.andThen_ok, rSize w hi, Sem.run_pure, hz, Bool.false_eq_true, if_false, hn, hfit, if_true, Bool.not_false, hc]
  cases base with
  | none =>
    simp only [Sem.run_pure] at hst
    injection hst with _ hw
    subst hw
    simp
  | some a => simp [hst]

theorem run_append_grow {argTypes : Array TypeId} {t u e : TypeId} {d : TypeDesc} {i : TypeInfo} {ty : TypeId} {w : World} {X : Value} {z : Value} (h0 : argTypes[0]? = some t) (h1 : argTypes[1]? = some u) (hd : P.underlying t = some (.slice e)) (hu : P.underlying u = some d)
    (hdu : ∀ k, d ≠ .int k) (hi : P.info? e = some i) (hz' : i.zero = some z) (hb : 0 < i.bytes) {base : Option Addr} {sLen sCap n : Nat} (hn : (Builtin.lenOf X).run P w = .ok n w) (hfit : sCap < sLen + n) (hlim : (sLen + n) * i.bytes ≤ 140737488355328) {cs os : List Value}
    (hc : (Builtin.firstCells i.size n X).run P w.drew = .ok cs.toArray w.drew) (ho : (Builtin.firstCells i.size sLen (.slice base sLen sCap)).run P w.drew = .ok os.toArray w.drew) :
    ∃ cap, sLen + n ≤ cap ∧ (Builtin.append_ argTypes ty #[.slice base sLen sCap, X]).run P w = .ok (.slice (some ⟨w.heap.size, 0, none⟩) (sLen + n) cap) (w.drew.alloc (.cells (os.toArray ++ cs.toArray ++ Builtin.zeroCells z.cells (cap - (sLen + n))) e)) := by
  let q : Question := .appendCap (sLen + n) sCap e
  refine ⟨q.cut (w.tape w.drawn q), Nat.le_add_right _ _, ?_⟩
  have hch : (choose q).run P w = .ok (q.cut (w.tape w.drawn q)) w.drew := by
    show Sem.run P (Sem.choose q .pure) w = _
    simp only [Sem.run]
    rw [if_neg (by simp [q, Question.forced])]
    rfl
  unfold Builtin.append_
  have hz : (match d with | .int _ => true | _ => false) = false := by cases d <;> first | rfl | exact absurd rfl (hdu _)
  have hfits := growslice_fits hfit hlim
  simp only [h0, h1, List.getElem?_toArray, List.getElem?_cons_zero, List.getElem?_cons_succ, Sem.run_bind, run_underlying hd, run_underlying hu, Result.andThen_ok, rSize w hi, Sem.run_pure, hz, Bool.false_eq_true, if_false, hn, Nat.not_le.2 hfit, Bool.not_false, if_true, rInfo w hi, false_or]
  have hb' : ¬ (i.bytes = 0) := by omega
  simp only [hb', and_false, if_false, Sem.run_bind, rInfo w hi, Result.andThen_ok]
  rw [if_neg (by omega)]
  simp only [Sem.run_bind, Sem.run_pure, Result.andThen_ok, show (choose (.appendCap (sLen + n) sCap e)).run P w = .ok (q.cut (w.tape w.drawn q)) w.drew from hch, rInfo w.drew hi, run_askRoom, ho, hc, rZero w.drew hi hz', newRow, run_newObj]
  rfl

theorem BRel.live_own {ι : Inj} {CR : CodeRel} {vs : List AVal} : (ABlk.cells true vs).owned = true := rfl

/-- A row that has moved to a new block of the model's: on the abstract side its own block is given up. -/
theorem app_grow {CR : CodeRel} {F : Nat → Option Obj} {w0 : World} {ι : Inj} {H H1 : AH} {w : World} (R : Rel CR F w0 ι H w) (R1 : Rel CR F w0 ι H1 w) (hnext : H1.next = H.next) {xs : List AVal} {C : Array Value} {e sz need cap acap : Nat}
    (hx : VsRel ι xs (C.toList.take xs.length)) (hl : xs.length = need * sz) (hcap : acap ≤ cap) (ha : need ≤ acap) (hC : C.size = cap * sz) (hpos : 0 < need) :
    VRel (ι.upd H.next (w.heap.size, 0, C.size)) (.slice (some (H.next, 0)) need acap sz) (.slice (some ⟨w.heap.size, 0, none⟩) need cap) ∧ ι.le (ι.upd H.next (w.heap.size, 0, C.size)) ∧
    Rel CR F w0 (ι.upd H.next (w.heap.size, 0, C.size)) (H1.alloc (.cells true xs)) (w.drew.alloc (.cells C e)) := by
  refine ⟨.slice _ 0 _ 0 _ _ _ _ _ (upd_same _ _ _) ha hcap (fun h => by omega) (by omega), R.le_upd _, ?_⟩
  have := R1.drew.alloc (o := .cells true xs) (x := .cells C e) (N := C.size) (BRel.of_cells hx) rfl
  rw [hnext] at this
  exact this

theorem run_firstCells_nil {w : World} {sz : Nat} {base : Option Addr} {c : Nat} : (Builtin.firstCells sz 0 (.slice base 0 c)).run P w = .ok #[] w := by
  cases base with
  | none => rfl
  | some a => simp [Builtin.firstCells, loadCells, loadCellsFrom]

theorem zeroCells_size (z : Array Value) (n : Nat) : (Builtin.zeroCells z n).size = n * z.size := by simp [Builtin.zeroCells]

theorem VsRel.take_left {ι : Inj} {xs : List AVal} {ys zs : List Value} (h : VsRel ι xs ys) : VsRel ι xs ((ys ++ zs).take xs.length) := by
  rw [h.length, List.take_left]
  exact h

theorem ok_app {args : Array Operand} {ts : Array TypeId} {t u e : TypeId} {d : TypeDesc} {i : TypeInfo} {x y : Operand} {a b : AO} {z : AVal} (ho : o.op = .call { callee := .builtin .append, args := args, argTypes := ts }) (hargs : args = #[x, y]) (h0 : ts[0]? = some t) (h1 : ts[1]? = some u)
    (hd : P.underlying t = some (.slice e)) (hu : P.underlying u = some d) (hdu : ∀ k, d ≠ .int k) (hi : P.info? e = some i) (hs : 0 < i.size) (hb : 0 < i.bytes) (hz : trZ P e = some z) (hval : z.isVal = true) (hzs : z.cells.length = i.size)
    (hx : trO x = some a) (hy : trO y = some b) : OpOk P o (.app i.size i.bytes a b) := by
  intro CR F w0 ι _ ρ H w act v H' R RR he
  obtain ⟨j, zv, hj, hzv, hzr⟩ := trZ_spec hz
  rw [hi] at hj
  injection hj with hj
  subst hj
  have hzl : zv.cells.size = i.size := by
    have := ((hzr ι).cells (isVal_ne hval)).length
    simpa [hzs] using this.symm
  have g1 := trO_rel RR hx
  have g2 := trO_rel RR hy
  subst hargs
  rw [exec_builtin ho]
  simp only [builtin]
  have hev : Array.map act.eval #[x, y] = #[act.eval x, act.eval y] := by simp
  rw [hev]
  simp only [evOp] at he
  generalize hX : act.eval x = S at g1
  generalize hY : act.eval y = X at g2
  generalize a.ev ρ = A at g1 he
  generalize b.ev ρ = B at g2 he
  -- the two ways of the model
  have grow : ∀ {base : Option Addr} {sLen sCap n acap : Nat} {cs : List AVal} {old : List AVal} {H1 : AH}, sLen + n ≤ acap → acap ≤ max (sLen + n) sCap → S = .slice base sLen sCap → srcCells i.size H B = some (n, cs) → sCap < sLen + n → (sLen + n) * i.bytes ≤ 140737488355328 → old.length = sLen * i.size →
      (∃ os : List Value, (Builtin.firstCells i.size sLen (.slice base sLen sCap)).run P w.drew = .ok os.toArray w.drew ∧ VsRel ι old os) → Rel CR F w0 ι H1 w → H1.next = H.next →
      v = .slice (some (H.next, 0)) (sLen + n) acap i.size → H' = H1.alloc (.cells true (old ++ cs)) →
      ∃ nx v' w' ι', (do pure (Next.value (← Builtin.append_ ts o.type #[S, X])) : Sem Next).run P w = .ok nx w' ∧ (nx = .value v' ∨ nx = .skip ∧ v' = undef) ∧ VRel ι' v v' ∧ ι.le ι' ∧ Rel CR F w0 ι' H' w' := by
    intro base sLen sCap n acap cs old H1 hac1 hac2 hS hsrc hlt hlim hol hos R1 hnx hv hH'
    obtain ⟨os, ho1, ho2⟩ := hos
    obtain ⟨n1, n2, cs', n3, n4⟩ := srcCells_spec (P := P) R.drew g2 hsrc
    obtain ⟨n1', _⟩ := srcCells_spec (P := P) R g2 hsrc
    obtain ⟨cap, hcap, hrun⟩ := run_append_grow (P := P) (argTypes := ts) (ty := o.type) h0 h1 hd hu hdu hi hzv hb n1' hlt hlim n3 ho1
    subst hS hv hH'
    have hCsize : (os.toArray ++ cs'.toArray ++ Builtin.zeroCells zv.cells (cap - (sLen + n))).size = cap * i.size := by
      have l1 := ho2.length
      have l2 := n4.length
      simp only [Array.size_append, List.size_toArray, zeroCells_size, hzl]
      rw [← l1, ← l2, hol, n2, ← Nat.add_mul, ← Nat.add_mul]
      congr 1
      omega
    obtain ⟨q1, q2, q3⟩ := app_grow (e := e) R R1 hnx (xs := old ++ cs) (C := os.toArray ++ cs'.toArray ++ Builtin.zeroCells zv.cells (cap - (sLen + n))) (sz := i.size) (need := sLen + n) (cap := cap) (acap := acap)
      (by simp only [Array.toList_append]; exact VsRel.take_left (ho2.append n4)) (by rw [List.length_append, hol, n2, Nat.add_mul]) (by omega) hac1 hCsize (by omega)
    exact ⟨_, _, _, _, run_v hrun, .inl rfl, q1, q2, q3⟩
  unfold doApp at he
  split at he
  · -- a nil row
    rename_i q1 q2 q3 n cs hsrc
    cases g1
    split at he
    · rename_i hn
      subst hn
      simp only [Option.some.injEq, Prod.mk.injEq] at he
      obtain ⟨rfl, rfl⟩ := he
      obtain ⟨n1, n2, cs', n3, n4⟩ := srcCells_spec (P := P) R g2 hsrc
      refine ⟨_, .slice none 0 0, w, ι, run_v (run_append_fit (P := P) (argTypes := ts) (ty := o.type) h0 h1 hd hu hdu hi n1 (Nat.le_refl _) n3 (by rfl)), .inl rfl, .sliceN _, Inj.le.refl _, R⟩
    · rename_i hn
      split at he
      · rename_i hlim
        simp only [Option.some.injEq, Prod.mk.injEq] at he
        obtain ⟨rfl, rfl⟩ := he
        refine grow (old := []) (acap := n) (by omega) (by omega) rfl hsrc (by omega) (by simpa using hlim) (by simp) ⟨[], run_firstCells_nil, .nil⟩ R rfl (by simp) (by simp)
      · cases he
  · rename_i q1 a0 len cap sz' n cs hsrc
    obtain ⟨b0, i0⟩ := a0
    cases g1
    rename_i g o' N cap' hbk c2 c3 c1 c4
    split at he
    · rename_i hc
      obtain ⟨hlim, hsz⟩ := hc
      subst hsz
      split at he
      · rename_i hcap0
        have hcap' := c3 hcap0
        have hlen0 : len = 0 := by omega
        subst hcap0 hlen0 hcap'
        split at he
        · rename_i hn
          subst hn
          simp only [Option.some.injEq, Prod.mk.injEq] at he
          obtain ⟨rfl, rfl⟩ := he
          obtain ⟨n1, n2, cs', n3, n4⟩ := srcCells_spec (P := P) R g2 hsrc
          have hnil : cs' = [] := by
            have := n4.length
            rw [n2] at this
            exact List.eq_nil_of_length_eq_zero (by simpa using this.symm)
          subst hnil
          refine ⟨_, _, w, ι, run_v (run_append_fit (P := P) (argTypes := ts) (ty := o.type) h0 h1 hd hu hdu hi n1 (Nat.le_refl _) n3 (by simp [storeCells])), .inl rfl, .slice b0 i0 g o' N _ _ _ _ hbk (by omega) (by omega) (fun h => h) c4, Inj.le.refl _, R⟩
        · rename_i hn
          simp only [Option.some.injEq, Prod.mk.injEq] at he
          obtain ⟨rfl, rfl⟩ := he
          refine grow (old := []) (acap := n) (by omega) (by omega) rfl hsrc (by omega) hlim (by simp) ⟨[], run_firstCells_nil, .nil⟩ R rfl (by simp) (by simp)
      · rename_i hcapne
        split at he <;> try (cases he; done)
        rename_i vs hg
        dsimp only at hg
        split at he
        · -- the row reaches to its block's end
          rename_i hcnd
          obtain ⟨hend, hall⟩ := hcnd
          simp only [Option.some.injEq, Prod.mk.injEq] at he
          obtain ⟨rfl, rfl⟩ := he
          dsimp only at hend
          by_cases hfit : len + n ≤ cap'
          · -- in place
            obtain ⟨n1, n2, cs', n3, n4⟩ := srcCells_spec (P := P) R g2 hsrc
            obtain ⟨g', off, N', X0, e1, e2, e3⟩ := R.blk b0 _ hg rfl
            rw [hbk] at e1
            injection e1 with e1
            injection e1 with ea eb
            injection eb with eb ec
            subst ea eb
            cases e3 with
            | cells _ _ _ C T fz k1 k2 k3 =>
              have hroom : (len + n) * i.size ≤ cap' * i.size := Nat.mul_le_mul_right _ hfit
              rw [Nat.add_mul] at hroom
              have hcl := n4.length
              have hone := VsRel.allCell n4 hall
              obtain ⟨w', C', s1, s2, s3, s4⟩ := run_storeCells (P := P) g T fz cs' w C (o' + i0 + len * i.size) 0 e2 hone (by omega) (fun k _ hk => k2 rfl _ (by omega))
              have hrun := run_append_fit (P := P) (argTypes := ts) (ty := o.type) (base := some ⟨g, o' + i0, none⟩) (sLen := len) (sCap := cap') h0 h1 hd hu hdu hi n1 hfit n3 (w' := w') (by
                show (storeCells (Addr.add ⟨g, o' + i0, none⟩ (len * i.size)) cs').run P w = _
                rw [addr_add]
                exact s1)
              have hCs : C'.size = C.size := by
                have := congrArg List.length s3
                simp [spliceV] at this
                omega
              -- first on the abstract side the old block is given up, then a new one lies at the same place
              have hown : (ABlk.cells true vs).owned = true := rfl
              obtain ⟨hF, hsep⟩ := R.sep b0 _ g (o', N) hg rfl hbk
              let ι' := ι.upd H.next (g, o' + i0, N)
              have hle := R.le_upd (g, o' + i0, N)
              have hnewcells : ∀ k v, (vs.drop i0 ++ cs)[k]? = some v → ∃ v', C'[o' + i0 + k]? = some v' ∧ VRel ι v v' := by
                intro k v hk
                have hget : C'[o' + i0 + k]? = (spliceV C.toList (o' + i0 + len * i.size + 0) cs')[o' + i0 + k]? := by rw [← Array.getElem?_toList, s3]
                rw [hget, Nat.add_zero]
                unfold spliceV
                have hdl : (vs.drop i0).length = len * i.size := by simp; omega
                rw [List.getElem?_append, hdl] at hk
                have hCl : o' + i0 + len * i.size + cs'.length ≤ C.toList.length := by simp; omega
                rw [List.append_assoc, List.getElem?_append]
                simp only [List.length_take]
                rw [Nat.min_eq_left (by omega)]
                by_cases hk1 : k < len * i.size
                · rw [if_pos hk1, List.getElem?_drop] at hk
                  rw [if_pos (by omega), List.getElem?_take, if_pos (by omega), Array.getElem?_toList]
                  obtain ⟨v', h5, h6⟩ := k1 _ v hk
                  exact ⟨v', by rw [Nat.add_assoc]; exact h5, h6⟩
                · rw [if_neg hk1] at hk
                  rw [if_neg (by omega), List.getElem?_append]
                  have hk2 := (List.getElem?_eq_some_iff.1 hk).1
                  rw [if_pos (by omega)]
                  obtain ⟨v', h5, h6⟩ := n4.get _ _ hk
                  exact ⟨v', by rw [show o' + i0 + k - (o' + i0 + len * i.size) = k - len * i.size from by omega]; exact h5, h6⟩
              have hlt := R.get_lt hg rfl
              refine ⟨_, _, w', ι', run_v hrun, .inl rfl, ?_, hle, ?_⟩
              · refine .slice _ 0 g (o' + i0) N _ _ _ _ (upd_same _ _ _) (Nat.le_max_left _ _) (Nat.max_le.2 ⟨hfit, c2⟩) (fun h => ?_) (by omega)
                have h6 : cap ≤ Nat.max (len + n) cap := Nat.le_max_right (len + n) cap
                rw [show Nat.max (len + n) cap = 0 from h] at h6
                exact c3 (by omega)
              · -- the relation anew
                obtain ⟨t1, t2, t3, t4, t5⟩ := s4
                refine ⟨t1.trans R.os, t2.trans R.tape, t3.trans R.output, by rw [t4]; exact R.size, ?_, ?_, ?_, ?_⟩
                · intro r X1 hr
                  have hne : r ≠ g := fun h => by subst h; rw [hF] at hr; cases hr
                  rw [t5 r hne]
                  exact R.frame r X1 hr
                · intro b1 p hp
                  show b1 < H.next + 1
                  simp only [ι', Inj.upd] at hp
                  split at hp
                  · omega
                  · have := R.dom _ _ hp; omega
                · intro b1 o1 h2 hl2
                  rw [AH.get_alloc] at h2
                  split at h2
                  · rename_i hb1
                    have hb1' : b1 = H.next := hb1
                    injection h2 with h2
                    subst h2
                    subst hb1'
                    refine ⟨g, o' + i0, N, _, upd_same _ _ _, s2, ?_⟩
                    have hsz2 : N = C'.size := by omega
                    rw [hsz2]
                    refine (BRel.cells true _ (o' + i0) C' T fz (fun k v hk => ?_) (fun _ j hj => ?_) ?_)
                    · obtain ⟨v', h5, h6⟩ := hnewcells k v hk
                      exact ⟨v', h5, h6.mono hle⟩
                    · rw [hCs] at hj
                      exact k2 rfl j hj
                    · simp only [List.length_append, List.length_drop, hCs]
                      omega
                  · rw [AH.get_set] at h2
                    split at h2
                    · injection h2 with h2; subst h2; cases hl2
                    · rename_i hne
                      obtain ⟨g1, off1, N1, X1, f1, f2, f3⟩ := R.blk b1 o1 h2 hl2
                      have hgne : g1 ≠ g := hsep b1 o1 _ h2 hl2 hne f1
                      exact ⟨g1, off1, N1, X1, hle _ _ f1, (t5 g1 hgne).trans f2, f3.mono hle⟩
                · intro b1 o1 g1 off1 h2 ho1 hi1
                  have old : ∀ b2 o2 p, (((H.set b0 .dead).alloc (.cells true (vs.drop i0 ++ cs))).get b2) = some o2 → o2.live = true → b2 ≠ H.next → ι' b2 = some p → H.get b2 = some o2 ∧ b2 ≠ b0 ∧ ι b2 = some p := by
                    intro b2 o2 p h3 hl3 hne3 hp
                    rw [AH.get_alloc, show (H.set b0 .dead).next = H.next from rfl] at h3
                    rw [if_neg hne3] at h3
                    rw [AH.get_set] at h3
                    split at h3
                    · injection h3 with h3; subst h3; cases hl3
                    · rename_i hne4
                      refine ⟨h3, hne4, ?_⟩
                      simp only [ι', Inj.upd] at hp
                      rw [if_neg hne3] at hp
                      exact hp
                  by_cases hb1 : b1 = H.next
                  · subst hb1
                    have hi1' : ι' H.next = some (g, o' + i0, N) := upd_same _ _ _
                    rw [hi1'] at hi1
                    injection hi1 with hi1
                    injection hi1 with hg1 _
                    subst hg1
                    refine ⟨hF, fun b2 o2 p h3 hl3 hne3 hp => ?_⟩
                    obtain ⟨h5, h6, h7⟩ := old b2 o2 p h3 hl3 hne3 hp
                    exact hsep b2 o2 p h5 hl3 h6 h7
                  · have hl1 : o1.live = true := by cases o1 <;> simp_all [ABlk.owned, ABlk.live]
                    obtain ⟨h5, h6, h7⟩ := old b1 o1 _ h2 hl1 hb1 hi1
                    obtain ⟨hF1, hs1⟩ := R.sep b1 o1 g1 off1 h5 ho1 h7
                    refine ⟨hF1, fun b2 o2 p h3 hl3 hne3 hp => ?_⟩
                    by_cases hb2 : b2 = H.next
                    · subst hb2
                      have hp' : ι' H.next = some (g, o' + i0, N) := upd_same _ _ _
                      rw [hp'] at hp
                      injection hp with hp
                      subst hp
                      show g ≠ g1
                      exact hs1 b0 _ (g, o', N) hg rfl (fun h => h6 h.symm) hbk
                    · obtain ⟨h8, _, h9⟩ := old b2 o2 p h3 hl3 hb2 hp
                      exact hs1 b2 o2 p h8 hl3 hne3 h9
          · -- it moves
            have hlN : H.loadN (b0, i0) (len * i.size) = some (vs.drop i0) := by
              unfold AH.loadN
              simp only [hg]
              have : (vs.drop i0).length = len * i.size := by simp; omega
              rw [List.take_of_length_le (by omega), if_pos this]
            obtain ⟨os, o1, o2, o3⟩ := R.drew.cellsN hlN hbk
            have hos : (Builtin.firstCells i.size len (.slice (some ⟨g, o' + i0, none⟩) len cap')).run P w.drew = .ok os.toArray w.drew := by
              have := run_loadCells_list (P := P) (w := w.drew) _ os o3
              rw [o1] at this
              exact this
            exact grow (old := vs.drop i0) (H1 := H.set b0 .dead) (Nat.le_max_left _ _) (show max (len + n) cap ≤ max (len + n) cap' by omega) rfl hsrc (by omega) hlim (by simp; omega) ⟨os, hos, o2⟩ (R.kill b0) rfl rfl rfl
        · split at he
          · rename_i hfit
            split at he
            · rename_i H1 hst
              simp only [Option.some.injEq, Prod.mk.injEq] at he
              obtain ⟨rfl, rfl⟩ := he
              obtain ⟨n1, n2, cs', n3, n4⟩ := srcCells_spec (P := P) R g2 hsrc
              obtain ⟨w', s1, s2⟩ := run_storeN (P := P) R hbk n4 hst
              refine ⟨_, _, w', ι, run_v (run_append_fit (P := P) (argTypes := ts) (ty := o.type) h0 h1 hd hu hdu hi n1 (by omega) n3 (w' := w') ?_), .inl rfl, .slice b0 i0 g o' N _ _ _ _ hbk hfit c2 c3 c4, Inj.le.refl _, s2⟩
              show (storeCells (Addr.add ⟨g, o' + i0, none⟩ (len * i.size)) cs').run P w = _
              rw [addr_add, Nat.add_assoc]
              exact s1
            · cases he
          · cases he
    · cases he
  · cases he

theorem ok_clr {args : Array Operand} {ts : Array TypeId} {t e : TypeId} {x : Operand} {a : AO} {z : AVal} {i : TypeInfo} (ho : o.op = .call { callee := .builtin .clear, args := args, argTypes := ts }) (ht : ts[0]? = some t) (hx0 : args[0]? = some x)
    (hd : P.underlying t = some (.slice e)) (hz : trZ P e = some z) (hval : z.isVal = true) (hx : trO x = some a) : OpOk P o (.clr z.cells a) := by
  intro CR F w0 ι _ ρ H w act v H' R RR he
  obtain ⟨i, zv, hi, hzv, hzr⟩ := trZ_spec hz
  have h1 := trO_rel RR hx
  simp only [evOp] at he
  have hx1 : (Array.map act.eval args)[0]? = some (act.eval x) := by simp [hx0]
  rw [exec_builtin ho]
  simp only [builtin]
  generalize hX : act.eval x = X at h1
  rw [hX] at hx1
  generalize a.ev ρ = A at h1 he
  have hzc := (hzr ι).cells (isVal_ne hval)
  have hzl : zv.cells.size = z.cells.length := by
    have := hzc.length
    simpa using this.symm
  cases h1 <;> try (simp at he; done)
  · simp only [Option.some.injEq, Prod.mk.injEq] at he
    obtain ⟨rfl, rfl⟩ := he
    refine ⟨_, .tuple #[], w, ι, run_v ?_, .inl rfl, .und _, Inj.le.refl _, R⟩
    unfold Builtin.clear_
    simp only [ht, hx1, Sem.run_bind, run_underlying hd, Result.andThen_ok]
    rfl
  · rename_i b i' g o' N len cap cap' sz hb c1 c2 c3 c4
    dsimp only at he
    split at he
    · rename_i h0
      simp only [Option.some.injEq, Prod.mk.injEq] at he
      obtain ⟨rfl, rfl⟩ := he
      refine ⟨_, .tuple #[], w, ι, run_v ?_, .inl rfl, .und _, Inj.le.refl _, R⟩
      unfold Builtin.clear_
      subst h0
      simp only [ht, hx1, Sem.run_bind, run_underlying hd, Result.andThen_ok]
      rfl
    · rename_i h0
      split at he
      · rename_i H1 hst
        simp only [Option.some.injEq, Prod.mk.injEq] at he
        obtain ⟨rfl, rfl⟩ := he
        have hreps := VsRel.reps hzc len
        have hlist : (Builtin.zeroCells zv.cells len).toList = (List.range (len * z.cells.length)).map fun k => zv.cells.toList[k % z.cells.length]?.getD default := by
          unfold Builtin.zeroCells
          rw [hzl]
          have := zeros_eq (z' := zv.cells) (n := len * z.cells.length)
          rw [hzl] at this
          rw [this]
          simp [hzl]
        rw [← hlist] at hreps
        obtain ⟨w', s1, s2⟩ := run_storeN (P := P) R hb hreps hst
        refine ⟨_, .tuple #[], w', ι, run_v ?_, .inl rfl, .und _, Inj.le.refl _, s2⟩
        unfold Builtin.clear_
        simp only [ht, hx1, Sem.run_bind, run_underlying hd, Result.andThen_ok]
        obtain ⟨m, rfl⟩ : ∃ m, len = m + 1 := ⟨len - 1, by omega⟩
        simp [rZero w hi hzv, s1]
      · cases he

theorem ok_cpy {args : Array Operand} {ts : Array TypeId} {t e : TypeId} {x y : Operand} {a b : AO} {i : TypeInfo} (ho : o.op = .call { callee := .builtin .copy, args := args, argTypes := ts }) (ht : ts[0]? = some t) (hx0 : args[0]? = some x) (hy0 : args[1]? = some y)
    (hd : P.underlying t = some (.slice e)) (hi : P.info? e = some i) (hx : trO x = some a) (hy : trO y = some b) : OpOk P o (.cpy i.size a b) := by
  intro CR F w0 ι _ ρ H w act v H' R RR he
  have h1 := trO_rel RR hx
  have h2 := trO_rel RR hy
  simp only [evOp] at he
  have hx1 : (Array.map act.eval args)[0]? = some (act.eval x) := by simp [hx0]
  have hy1 : (Array.map act.eval args)[1]? = some (act.eval y) := by simp [hy0]
  rw [exec_builtin ho]
  simp only [builtin]
  generalize hX : act.eval x = X at h1
  generalize hY : act.eval y = Y at h2
  rw [hX] at hx1
  rw [hY] at hy1
  generalize a.ev ρ = A at h1 he
  generalize b.ev ρ = B at h2 he
  cases h1 <;> try (simp at he; done)
  rename_i b0 i' g o' N len cap cap' sz hb c1 c2 c3 c4
  split at he <;> try (cases he; done)
  rename_i q1 sn q2 q3
  injection q2 with q2 q4 q5 q6
  injection q2 with q2
  subst q2 q4
  split at he
  · rename_i cs hsrc
    split at he
    · rename_i H1 hst
      simp only [Option.some.injEq, Prod.mk.injEq] at he
      obtain ⟨rfl, rfl⟩ := he
      have hsl : (Builtin.lenOf Y).run P w = .ok sn w ∧ ∃ cs' : List Value, (Builtin.firstCells i.size (Nat.min sn len) Y).run P w = .ok cs'.toArray w ∧ VsRel ι cs cs' := by
        cases h2 <;> try (simp [srcLen] at q3; done)
        · rename_i l s hl
          simp only [srcLen, Option.some.injEq] at q3
          subst q3
          have hls : l.length = s.size := by subst hl; simp
          refine ⟨by simp [Builtin.lenOf, hls], ?_⟩
          simp only [srcN] at hsrc
          split at hsrc
          · injection hsrc with hsrc
            subst hsrc
            refine ⟨((s.data.toList.take (Nat.min l.length len)).map fun b => Value.int .u8 b.toNat), ?_, ?_⟩
            · simp only [Builtin.firstCells, Sem.run_pure]
              congr 1
              apply Array.ext'
              rw [ByteArray.data_extract]
              simp [List.map_take]
            · subst hl
              rw [← List.map_take, List.map_map]
              exact VsRel.of_map _
          · cases hsrc
        · simp only [srcLen, Option.some.injEq] at q3
          subst q3
          simp only [srcN] at hsrc
          split at hsrc
          · injection hsrc with hsrc
            subst hsrc
            exact ⟨rfl, [], rfl, .nil⟩
          · cases hsrc
        · rename_i b1 i1 g1 o1 N1 len1 cap1 cap1' sz1 hb1 d1 d2 d3 d4
          simp only [srcLen, Option.some.injEq] at q3
          subst q3
          simp only [srcN] at hsrc
          obtain ⟨l', p1, p2, p3⟩ := R.cellsN hsrc hb1
          refine ⟨rfl, l', ?_, p2⟩
          have := run_loadCells_list (P := P) (w := w) _ l' p3
          rw [p1] at this
          exact this
      obtain ⟨n1, cs', n2, n3⟩ := hsl
      obtain ⟨w', s1, s2⟩ := run_storeN (P := P) R hb n3 hst
      refine ⟨_, .int .i64 (Nat.min sn len), w', ι, run_v ?_, .inl rfl, .int _ _, Inj.le.refl _, s2⟩
      unfold Builtin.copy_
      simp only [ht, hx1, hy1, Sem.run_bind, run_underlying hd, Result.andThen_ok, n1, rSize w hi, n2, s1, Sem.run_pure]
      simp [s1, goInt]
    · cases he
  · cases he
end ops
end Rst
/- What each translated operation does in the model: maps. -/
set_option linter.unusedVariables false
set_option linter.unusedSimpArgs false
namespace Rst
open Go

section
variable {P : Program}

theorem run_checkKey_plain {w : World} {t : TypeId} {d : TypeDesc} (hd : P.underlying t = some d) (hp : d = .bool ∨ (∃ k, d = .int k) ∨ d = .string) (em : Bool) (m : Nat) (v : Value) : (Instr.checkKey em (m + 1) t v).run P w = .ok () w := by
  rcases hp with rfl | ⟨k, rfl⟩ | rfl <;> simp [Instr.checkKey, run_underlying hd]

theorem checkKey_fields {ι : Inj} {w : World} {em : Bool} {d : Nat} (ih : ∀ (t : TypeId) (ks : List LK), trLKs P d t = some ks → ∀ (m : Nat) dd, P.underlying t = some dd → ∀ (xs : List AVal) (xs' : List Value), VsRel ι xs xs' → ks.length ≤ xs.length →
      (isAggD dd = true → (Instr.checkKey em (m + d) t (.agg xs'.toArray)).run P w = .ok () w) ∧ (isAggD dd = false → ∀ v, (Instr.checkKey em (m + d) t v).run P w = .ok () w)) (m : Nat) :
    ∀ (l : List Field) (off : Nat) (ks : List LK), trLKgo P (trLKs P d) off l = some ks → ∀ (xs : List AVal) (xs' : List Value), VsRel ι xs xs' → off + ks.length ≤ xs.length → ∀ (u : PUnit),
      (forIn l u fun f (_ : PUnit) => (do
        if f.name ≠ "_" then Instr.checkKey em (m + d) f.type (← part f.type xs'.toArray f.offset)
        pure (ForInStep.yield PUnit.unit) : Sem (ForInStep PUnit))).run P w = .ok PUnit.unit w := by
  intro l
  induction l with
  | nil => intro off ks h xs xs' hx hlen u; rfl
  | cons f l ihl =>
    intro off ks h xs xs' hx hlen u
    simp only [trLKgo] at h
    split at h <;> try (cases h; done)
    rename_i hf
    obtain ⟨hf1, hf2⟩ := hf
    split at h <;> try (cases h; done)
    rename_i k1 i hk1 hi
    split at h <;> try (cases h; done)
    rename_i hsz
    split at h <;> try (cases h; done)
    rename_i r hr
    injection h with h
    subst h
    simp only [List.length_append] at hlen
    obtain ⟨dd, hdd⟩ : ∃ dd, P.underlying f.type = some dd := by
      cases hq : P.underlying f.type with
      | some q => exact ⟨q, rfl⟩
      | none =>
        cases d with
        | zero => simp [trLKs] at hk1
        | succ d => simp [trLKs, hq] at hk1
    have hpart := run_part_cells (P := P) (w := w) hdd hi xs' f.offset
    have hsub : ∃ v, (part f.type xs'.toArray f.offset).run P w = .ok v w ∧ (Instr.checkKey em (m + d) f.type v).run P w = .ok () w := by
      cases ha : isAggD dd with
      | true =>
        refine ⟨_, hpart.1 ha, ?_⟩
        refine (ih f.type k1 hk1 m dd hdd ((xs.drop f.offset).take i.size) _ ((hx.drop _).take _) ?_).1 ha
        simp
        omega
      | false =>
        obtain ⟨v, hv⟩ : ∃ v, xs'[f.offset]? = some v := by
          have hl := hx.length
          have : k1 ≠ [] := by
            intro e
            subst e
            obtain ⟨k, hk, _⟩ := (eqs_spec (P := P) (ι := ι) (w := w) d f.type [] hk1 m).2 dd hdd ha
            cases hk
          have hk1l : 0 < k1.length := List.length_pos_iff.2 this
          exact ⟨_, List.getElem?_eq_getElem (show f.offset < xs'.length by omega)⟩
        exact ⟨v, hpart.2 ha v hv, (ih f.type k1 hk1 m dd hdd (xs.drop f.offset) _ (hx.drop _) (by simp; omega)).2 ha v⟩
    obtain ⟨v, h1, h2⟩ := hsub
    simp only [List.forIn_cons, Sem.run_bind]
    rw [if_pos hf2]
    simp only [Sem.run_bind, h1, Result.andThen_ok, h2, Sem.run_pure]
    exact ihl (off + k1.length) r hr xs xs' hx (by omega) _

theorem checkKey_spec {ι : Inj} {w : World} {em : Bool} : ∀ (d : Nat) (t : TypeId) (ks : List LK), trLKs P d t = some ks → ∀ (m : Nat) dd, P.underlying t = some dd → ∀ (xs : List AVal) (xs' : List Value), VsRel ι xs xs' → ks.length ≤ xs.length →
    (isAggD dd = true → (Instr.checkKey em (m + d) t (.agg xs'.toArray)).run P w = .ok () w) ∧ (isAggD dd = false → ∀ v, (Instr.checkKey em (m + d) t v).run P w = .ok () w) := by
  intro d
  induction d with
  | zero => intro t ks h; simp [trLKs] at h
  | succ d ih =>
    intro t ks h m dd hdd xs xs' hx hlen
    unfold trLKs at h
    rw [hdd] at h
    split at h
    · rename_i hq; injection hq with hq; subst hq
      exact ⟨(fun h => by cases h), fun _ v => run_checkKey_plain hdd (.inl rfl) em (m + d) v⟩
    · rename_i k hq; injection hq with hq; subst hq
      exact ⟨(fun h => by cases h), fun _ v => run_checkKey_plain hdd (.inr (.inl ⟨_, rfl⟩)) em (m + d) v⟩
    · rename_i hq; injection hq with hq; subst hq
      exact ⟨(fun h => by cases h), fun _ v => run_checkKey_plain hdd (.inr (.inr rfl)) em (m + d) v⟩
    · rename_i fs hq; injection hq with hq; subst hq
      refine ⟨fun _ => ?_, (fun h => by cases h)⟩
      split at h
      · cases h
      · rw [show m + (d + 1) = (m + d) + 1 from by omega]
        simp only [Instr.checkKey, Sem.run_bind, run_underlying hdd, Result.andThen_ok]
        rw [← Array.forIn_toList]
        have := checkKey_fields (P := P) (w := w) (em := em) ih m fs.toList 0 ks h xs xs' hx (by omega) PUnit.unit
        simp at this ⊢
        rw [this]
        rfl
    · cases h
end
end Rst
