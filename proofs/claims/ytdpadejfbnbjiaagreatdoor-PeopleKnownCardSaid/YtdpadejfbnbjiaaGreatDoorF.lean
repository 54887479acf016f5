/- A verified abstract machine for this program, contracts of its functions, and rows: Draw, DrawSim, DrawAll, CodeSim, FuncSim, CodeAll, CodeEnd, FnTr. -/
import Derived.Test.YtdpadejfbnbjiaaGreatDoorE
import Derived.KernelRfl
/- Drawn orders: the order that is drawn keeps the edges; the check of the orders that are walked. -/
set_option linter.unusedVariables false
set_option linter.unusedSimpArgs false
namespace Rst
open Go

def predsOf (o : Oper) : List Nat := (o.after.toList.filter (Region.binds .any)).map (·.on)
theorem mem_predsOf {o : Oper} {p : Nat} : p ∈ predsOf o ↔ ∃ e ∈ o.after, Region.binds .any e = true ∧ e.on = p := by
  simp [predsOf, and_assoc]
/-- An order that keeps the edges and leaves nothing out. -/
inductive Sched (ops : Array Oper) : List Nat → List Nat → Prop
  | nil (D : List Nat) : (∀ i, i < ops.size → i ∈ D) → Sched ops D []
  | cons (D : List Nat) (i : Nat) (o : Oper) (s : List Nat) : ops[i]? = some o → i ∉ D → (∀ p ∈ predsOf o, p ∈ D) → Sched ops (i :: D) s → Sched ops D (i :: s)

theorem countP_le {α : Type} (p q : α → Bool) (h : ∀ a, q a = true → p a = true) : ∀ l : List α, l.countP q ≤ l.countP p
  | [] => by simp
  | a :: l => by
    have := countP_le p q h l
    simp only [List.countP_cons]
    cases hq : q a <;> cases hp : p a <;> simp_all <;> omega
theorem countP_lt {α : Type} (p q : α → Bool) (h : ∀ a, q a = true → p a = true) {x : α} (hp : p x = true) (hq : q x = false) : ∀ l : List α, x ∈ l → l.countP q < l.countP p
  | [], hx => by simp at hx
  | a :: l, hx => by
    have h0 := countP_le p q h l
    simp only [List.countP_cons]
    rcases List.mem_cons.1 hx with rfl | hx
    · simp [hp, hq]; omega
    · have := countP_lt p q h hp hq l hx
      cases hqa : q a
      · cases hpa : p a <;> simp <;> omega
      · simp [h a hqa]; omega

theorem sched_go {ops : Array Oper} (hb : ∀ i o, ops[i]? = some o → ∀ p ∈ predsOf o, p < i) : ∀ (fuel t : Nat) (listed : Array Bool) (D : List Nat), listed.size = ops.size → (∀ i, i < ops.size → (listed.getD i true = true ↔ i ∈ D)) →
    (List.range ops.size).countP (fun i => !listed.getD i true) ≤ fuel → Sched ops D (Region.linearise.go .any ops fuel t listed []) := by
  intro fuel
  induction fuel with
  | zero =>
    intro t listed D hs hD hc
    simp only [Region.linearise.go, List.reverse_nil]
    refine .nil D fun i hi => (hD i hi).1 ?_
    have := List.countP_eq_zero.1 (Nat.le_zero.1 hc) i (List.mem_range.2 hi)
    simpa using this
  | succ fuel ih =>
    intro t listed D hs hD hc
    simp only [Region.linearise.go]
    change Sched ops D (match (Region.ready .any ops listed)[t % (Region.ready .any ops listed).length]? with
      | some i => Region.linearise.go .any ops fuel (t / (Region.ready .any ops listed).length) (listed.setIfInBounds i true) [i]
      | none => [].reverse)
    cases hi : (Region.ready .any ops listed)[t % (Region.ready .any ops listed).length]? with
    | none =>
      have hnil : Region.ready .any ops listed = [] := by
        cases hr : Region.ready .any ops listed with
        | nil => rfl
        | cons x xs =>
          rw [hr] at hi
          have hlt : t % (x :: xs).length < (x :: xs).length := Nat.mod_lt _ (by simp)
          simp at hi
          simp at hlt
          omega
      refine .nil D fun i => ?_
      induction i using Nat.strongRecOn with
      | _ i ihi =>
        intro hi
        refine (hD i hi).1 ?_
        cases hl : listed.getD i true with
        | true => rfl
        | false =>
          exfalso
          obtain ⟨o, ho⟩ : ∃ o, ops[i]? = some o := ⟨_, Array.getElem?_eq_getElem hi⟩
          have : i ∈ Region.ready .any ops listed := by
            refine mem_ready.2 ⟨hl, o, ho, fun e he hbe => ?_⟩
            have hlt := hb i o ho e.on (mem_predsOf.2 ⟨e, he, hbe, rfl⟩)
            have hlt' : e.on < ops.size := by omega
            have h2 := (hD e.on hlt').2 (ihi e.on hlt hlt')
            have h3 : e.on < listed.size := by omega
            rw [Array.getD_eq_getD_getElem?, Array.getElem?_eq_getElem h3] at h2 ⊢
            simpa using h2
          rw [hnil] at this
          cases this
    | some i =>
      have hmem := List.mem_of_getElem? hi
      obtain ⟨h0, o, ho, he⟩ := mem_ready.1 hmem
      have hin : i < ops.size := (Array.getElem?_eq_some_iff.1 ho).1
      dsimp only
      rw [linearise_go_acc, List.reverse_singleton, List.singleton_append]
      have hset : ∀ j, j < ops.size → ((listed.setIfInBounds i true).getD j true = true ↔ j = i ∨ listed.getD j true = true) := by
        intro j hj
        rw [Array.getD_eq_getD_getElem?, Array.getD_eq_getD_getElem?, Array.getElem?_setIfInBounds]
        by_cases e : i = j
        · subst e
          have : i < listed.size := by omega
          simp [this]
        · rw [if_neg e]
          have : ¬ j = i := fun h => e h.symm
          simp [this]
      refine .cons D i o _ ho ?_ ?_ (ih _ _ _ (by simpa using hs) ?_ ?_)
      · intro hid
        have := (hD i hin).2 hid
        rw [h0] at this
        cases this
      · intro p hp
        obtain ⟨e, h1, h2, rfl⟩ := mem_predsOf.1 hp
        have h3 := he e h1 h2
        have hlt := hb i o ho e.on hp
        refine (hD e.on (by omega)).1 ?_
        have h4 : e.on < listed.size := by omega
        rw [Array.getD_eq_getD_getElem?, Array.getElem?_eq_getElem h4] at h3 ⊢
        simpa using h3
      · intro j hj
        rw [hset j hj, hD j hj]
        simp
      · have := countP_lt (fun j => !listed.getD j true) (fun j => !(listed.setIfInBounds i true).getD j true) (fun j hj => by
          cases hl : listed.getD j true with
          | false => simp [hl]
          | true =>
            exfalso
            have : (listed.setIfInBounds i true).getD j true = true := by
              by_cases hjn : j < ops.size
              · exact (hset j hjn).2 (.inr hl)
              · rw [Array.getD_eq_getD_getElem?, Array.getElem?_eq_none (by simp; omega)]; rfl
            rw [this] at hj
            cases hj) (x := i) (by simp [h0]) (by have := (hset i hin).2 (.inl rfl); simp [this]) (List.range ops.size) (List.mem_range.2 hin)
        omega

theorem sched_lin {ops : Array Oper} (hb : ∀ i o, ops[i]? = some o → ∀ p ∈ predsOf o, p < i) (t : Nat) : Sched ops [] (Region.schedule true ops t) := by
  simp only [Region.schedule, Bool.true_or, if_true, Region.linearise]
  refine sched_go hb _ _ _ _ (by simp) (fun i hi => ?_) ?_
  · rw [Array.getD_eq_getD_getElem?]
    simp [hi]
  · exact Nat.le_trans List.countP_le_length (by simp)

/-! ### The check -/
section
variable (l : List AOper) (A : List (List Nat))
def dstOf (j : Nat) : Option Nat := (l[j]?).bind (·.dst)
def rdOf (o : AOper) : List Nat := o.op.reads ++ gReads o.guard
/-- An operation that an order may move: it leaves the heap alone, nobody else writes its slot, and what it reads is written before it by force. -/
def flB (i : Nat) : Bool := match l[i]? with
  | some ⟨some d, op, g⟩ => op.light && (List.range l.length).all (fun j => (j == i || !(dstOf l j == some d)) &&
      ((rdOf ⟨some d, op, g⟩).all fun r => !(dstOf l j == some r) || (((A.getD i []).contains j || (A.getD j []).contains i) && !(j == i))) &&
      (match l[j]? with | some o => !(rdOf o).contains d || ((A.getD j []).contains i && !(j == i)) | none => true))
  | _ => false
def looksB (i : Nat) : Bool := match l[i]? with
  | some o => o.op.looks
  | none => false
def lightB (i : Nat) : Bool := match l[i]? with
  | some o => o.op.light
  | none => false
def fixOk (E : List Nat) (x : Nat) (rest : List (Nat × Bool)) : Bool :=
  (E.all fun j => !flB l A j || !(A.getD j []).contains x) &&
  (lightB l x || E.all fun j => !flB l A j || !looksB l j || (A.getD x []).contains j || (rest.takeWhile fun p => !p.2).contains (j, false))
def flOk (E : List Nat) (i : Nat) : Bool :=
  (match E.find? (fun x => !flB l A x) with | none => true | some x => (A.getD i []).contains x) && ((A.getD i []).all fun j => E.contains j)
def scanB : List Nat → List (Nat × Bool) → Bool
  | E, [] => (List.range l.length).all fun i => E.contains i
  | E, (i, true) :: rest => !E.contains i && Nat.blt i l.length && (if flB l A i then flOk l A E i else fixOk l A E i rest) && scanB (i :: E) rest
  | E, (i, false) :: rest => E.contains i && flB l A i && scanB E rest
/-- Every order of the fixed ones that keeps the edges is among these. -/
def coverB : Nat → List Nat → List Nat → List (List Nat) → Bool
  | 0, _, _, _ => false
  | n + 1, D, left, fs => (left.isEmpty && fs.any (·.isEmpty)) ||
      (!left.isEmpty && left.all fun x => (A.getD x []).any (fun y => left.contains y) ||
        coverB n (x :: D) (left.filter (fun y => !(y == x))) (fs.filterMap fun f => match f with | y :: r => if y == x then some r else none | [] => none))
def fixedOf (alt : List (Nat × Bool)) : List Nat := (alt.filter fun p => p.2 && !flB l A p.1).map (·.1)
end
/-- The transitive closure of the edges, as a table. -/
def ancTab (ops : Array Oper) : List (List Nat) := (ops.foldl (fun (acc : Array (List Nat)) o => acc.push (((predsOf o) ++ (predsOf o).flatMap fun p => acc.getD p []).eraseDups)) #[]).toList
def tabOk (ops : Array Oper) (A : List (List Nat)) : Bool :=
  ops.toList.zipIdx.all fun (o, i) => (predsOf o).all (fun p => Nat.blt p i) && (A.getD i []).all fun j => (predsOf o).contains j || (predsOf o).any fun p => (A.getD p []).contains j
def altsB (ops : Array Oper) (l : List AOper) (alts : List (List (Nat × Bool))) : Bool :=
  let A := ancTab ops
  let fx := (List.range l.length).filter fun i => !flB l A i
  tabOk ops A && alts.all (fun alt => scanB l A [] alt) && coverB A (l.length + 1) [] fx (alts.map (fixedOf l A)) && !alts.isEmpty
end Rst
/- A region whose order is drawn comes to what one of the walked orders comes to. -/
set_option linter.unusedVariables false
set_option linter.unusedSimpArgs false
namespace Rst
open Go

/-- A frame that a panic has met. -/
def PanFr (b : Frame) (ds : List Deferred) (v' : Value) (fr : Frame) : Prop :=
  ∃ a todo, a.defers = ds ∧ (∀ d x r s k, todo ≠ Item.call d x r s :: k) ∧ fr = { frOn b a todo with mode := .panicking [{ v := v', recovered := false }] }
/-- What an operation's walk comes to. -/
def OperOut (P : Program) (CR : CodeRel) (F : Nat → Option Obj) (w0 : World) (ι : Inj) (K Pn : AVal → AH → Prop) (m : Machine) (next : Value → Frame) (b : Frame) (ds : List Deferred) (cs : List Frame) : Prop :=
  (∃ v v' H' ι' w', K v H' ∧ ι.le ι' ∧ Rel CR F w0 ι' H' w' ∧ VRel ι' v v' ∧ Steps P m (lone (next v') cs w')) ∨
  (∃ v v' H' ι' w' fr, Pn v H' ∧ ι.le ι' ∧ Rel CR F w0 ι' H' w' ∧ VRel ι' v v' ∧ PanFr b ds v' fr ∧ Steps P m (lone fr cs w'))
def OperSim (P : Program) (CR : CodeRel) (C : CallSem) : Prop :=
  ∀ (N : Nat) (ρ : Rg) (H : AH) (K Pn : AVal → AH → Prop) (F : Nat → Option Obj) (w0 : World) (ι : Inj) (w : World) (b : Frame) (a : Act) (k : List Item) (cs : List Frame) (ops : Array Oper) (i : Nat) (rest : List Nat) (o : Oper) (aop : AOp),
    ops[i]? = some o → Region.wanted o (yielded ops a.tmps) = true → trOp P o.op = some aop → EvV C aop ρ H K Pn → Rel CR F w0 ι H w → RRel ι N ρ a.tmps →
    OperOut P CR F w0 ι K Pn (lone (frOn b a (.inRegion ops (i :: rest) :: k)) cs w) (fun v' => frOn b (a.put o.dst v') (.inRegion ops rest :: k)) b a.defers cs
def RegOut (P : Program) (CR : CodeRel) (F : Nat → Option Obj) (w0 : World) (ι : Inj) (N : Nat) (Q : Post) (m : Machine) (ops : Array Oper) (b : Frame) (ds : List Deferred) (k : List Item) (cs : List Frame) : Prop :=
  (∃ ρ' H' ι' w' a', Q .nrm ρ' H' ∧ ι.le ι' ∧ Rel CR F w0 ι' H' w' ∧ RRel ι' N ρ' a'.tmps ∧ a'.defers = ds ∧ Steps P m (lone (frOn b a' (.inRegion ops [] :: k)) cs w')) ∨
  (∃ v v' ρ' H' ι' w' fr, Q (.pan v) ρ' H' ∧ ι.le ι' ∧ Rel CR F w0 ι' H' w' ∧ VRel ι' v v' ∧ PanFr b ds v' fr ∧ Steps P m (lone fr cs w'))

theorem RegOut.of_steps {P : Program} {CR : CodeRel} {F : Nat → Option Obj} {w0 : World} {ι ι1 : Inj} {N : Nat} {Q : Post} {m m1 : Machine} {ops : Array Oper} {b : Frame} {ds : List Deferred} {k : List Item} {cs : List Frame}
    (hs : Steps P m m1) (hι : ι.le ι1) (h : RegOut P CR F w0 ι1 N Q m1 ops b ds k cs) : RegOut P CR F w0 ι N Q m ops b ds k cs := by
  rcases h with ⟨ρ', H', ι', w', a', h1, h2, h3, h4, h5, h6⟩ | ⟨v, v', ρ', H', ι', w', fr, h1, h2, h3, h4, h5, h6⟩
  · exact .inl ⟨ρ', H', ι', w', a', h1, hι.trans h2, h3, h4, h5, hs.trans h6⟩
  · exact .inr ⟨v, v', ρ', H', ι', w', fr, h1, hι.trans h2, h3, h4, h5, hs.trans h6⟩

theorem get_at {ρ : Rg} {t : Nat} {v : AVal} (h : ρ.get t = some v) : ρ.at t = v := by simp [Tr.at, h]
theorem RRel.of_at {ι : Inj} {N : Nat} {ρ ρ' : Rg} {tmps : Array Value} (R : RRel ι N ρ tmps) (h : ∀ t, ρ.at t = ρ'.at t) : RRel ι N ρ' tmps :=
  ⟨R.1, fun t v e => by have := at_rel R t; rw [h t, get_at e] at this; exact this⟩
theorem put_at (ρ : Rg) (d : Nat) (v : AVal) (r : Nat) : (put ρ (some d) v).at r = if r = d then v else ρ.at r := Tr.at_set _ _ _ _
theorem put_get (ρ : Rg) (d : Nat) (v : AVal) (r : Nat) : (put ρ (some d) v).get r = if r = d then some v else ρ.get r := Tr.get_set _ _ _ _

section
variable {P : Program} {CR : CodeRel} {C : CallSem} {N : Nat} {ops : Array Oper} {l : List AOper} {A : List (List Nat)}

theorem flB_spec {i : Nat} (h : flB l A i = true) : ∃ d op g, l[i]? = some ⟨some d, op, g⟩ ∧ op.light = true ∧ i < l.length ∧
    ∀ j, j < l.length → (j ≠ i → dstOf l j ≠ some d) ∧ (∀ r ∈ rdOf ⟨some d, op, g⟩, dstOf l j = some r → (j ∈ A.getD i [] ∨ i ∈ A.getD j []) ∧ j ≠ i) ∧ ∀ o, l[j]? = some o → d ∈ rdOf o → i ∈ A.getD j [] ∧ j ≠ i := by
  unfold flB at h
  split at h
  · rename_i d op g hi
    simp only [Bool.and_eq_true, List.all_eq_true, List.mem_range] at h
    obtain ⟨h1, h2⟩ := h
    refine ⟨d, op, g, hi, h1, (List.getElem?_eq_some_iff.1 hi).1, fun j hj => ?_⟩
    obtain ⟨⟨h3, h4⟩, h5⟩ := h2 j hj
    refine ⟨fun hne e => ?_, fun r hr e => ?_, fun o ho hd => ?_⟩
    · simp [hne, e] at h3
    · have := h4 r hr
      simpa [e] using this
    · rw [ho] at h5
      simpa [hd] using h5
  · cases h
theorem dst_lt {j r : Nat} (h : dstOf l j = some r) : j < l.length := by
  unfold dstOf at h
  cases hj : l[j]? with
  | none => rw [hj] at h; cases h
  | some o => exact (List.getElem?_eq_some_iff.1 hj).1

/-- What has been walked gives again what it gave, or will be asked again. -/
def Re (b : Prop) (o : AOper) (ρ : Rg) (H : AH) : Prop :=
  ∃ d, o.dst = some d ∧ ((wants ρ o.guard = some true ∧ (b ∨ ∃ v, ρ.get d = some v ∧ evOp ρ H o.op = some (v, H))) ∨ (wants ρ o.guard = some false ∧ ρ.get d = some .nul))
def pend (L : List (Nat × Bool)) (i : Nat) : Prop := (i, false) ∈ L.takeWhile fun p => !p.2

structure Inv (l : List AOper) (A : List (List Nat)) (D E : List Nat) (L : List (Nat × Bool)) (ρ ρs : Rg) (H : AH) : Prop where
  closed : ∀ i ∈ D, ∀ j ∈ A.getD i [], j ∈ D
  fixd : ∀ i, i < l.length → flB l A i = false → (i ∈ D ↔ i ∈ E)
  flt : ∀ i, flB l A i = true → i ∈ D → i ∈ E
  eanc : ∀ i ∈ E, flB l A i = true → ∀ j ∈ A.getD i [], j ∈ E
  regs : ∀ r, (∀ i ∈ E, flB l A i = true → i ∉ D → dstOf l i ≠ some r) → ρs.at r = ρ.at r
  again : ∀ i ∈ E, flB l A i = true → i ∉ D → ∀ o, l[i]? = some o → Re (pend L i) o ρ H

theorem scan_later : ∀ (L : List (Nat × Bool)) (E : List Nat), scanB l A E L = true → ∀ i, i < l.length → flB l A i = true → i ∉ E → ∀ x, E.find? (fun x => !flB l A x) = some x → ∃ y, flB l A y = false ∧ y ∈ A.getD i [] ∧ (y = x ∨ (y ∉ E ∧ y < l.length)) := by
  intro L
  induction L with
  | nil =>
    intro E h i hi _ hE
    simp only [scanB, List.all_eq_true, List.mem_range] at h
    exact absurd (by simpa using h i hi) hE
  | cons p L ih =>
    intro E h i hi hf hE x hx
    obtain ⟨j, b⟩ := p
    cases b with
    | false =>
      simp only [scanB, Bool.and_eq_true] at h
      exact ih E h.2 i hi hf hE x hx
    | true =>
      simp only [scanB, Bool.and_eq_true] at h
      obtain ⟨⟨⟨h0, hlt⟩, h2⟩, h3⟩ := h
      by_cases e : i = j
      · subst e
        rw [if_pos hf] at h2
        simp only [flOk, Bool.and_eq_true] at h2
        rw [hx] at h2
        exact ⟨x, by simpa using List.find?_some hx, by simpa using h2.1, .inl rfl⟩
      · by_cases hfj : flB l A j = true
        · obtain ⟨y, y1, y2, y3⟩ := ih (j :: E) h3 i hi hf (by simp [e, hE]) x (by simp [hfj, hx])
          exact ⟨y, y1, y2, y3.imp id fun h => ⟨fun hy => h.1 (by simp [hy]), h.2⟩⟩
        · have hfj : flB l A j = false := by simpa using hfj
          obtain ⟨y, y1, y2, y3⟩ := ih (j :: E) h3 i hi hf (by simp [e, hE]) j (by simp [hfj])
          refine ⟨y, y1, y2, .inr ?_⟩
          rcases y3 with rfl | ⟨h, h'⟩
          · exact ⟨by simpa using h0, by simpa [Nat.blt_eq] using hlt⟩
          · exact ⟨fun hy => h (by simp [hy]), h'⟩

theorem Re.keep {b b' : Prop} {o : AOper} {ρ : Rg} {H : AH} {d : Nat} {v : AVal} (h : Re b o ρ H) (hb : b → b') (hd : o.dst ≠ some d) (hr : d ∉ rdOf o) (ha : o.op.isAgain = false) : Re b' o (put ρ (some d) v) H := by
  obtain ⟨d', e1, h⟩ := h
  have hne : d' ≠ d := fun e => hd (by rw [e1, e])
  have hrr : ∀ r ∈ rdOf o, ρ.at r = (put ρ (some d) v).at r := by
    intro r hr'
    rw [put_at, if_neg (fun e : r = d => hr (by rw [← e]; exact hr'))]
  have hw : wants ρ o.guard = wants (put ρ (some d) v) o.guard := wants_congr fun r h => hrr r (by simp [rdOf, h])
  have hev : evOp ρ H o.op = evOp (put ρ (some d) v) H o.op := evOp_congr ha fun r h => hrr r (by simp [rdOf, h])
  refine ⟨d', e1, ?_⟩
  rw [← hw, put_get, if_neg hne, ← hev]
  rcases h with ⟨h1, h2⟩ | h2
  · exact .inl ⟨h1, h2.imp hb id⟩
  · exact .inr h2
theorem light_again {op : AOp} (h : op.light = true) : op.isAgain = false := by cases op <;> simp_all [AOp.light, AOp.isAgain]

/-- The operations that an order may move are walked at once, up to the next one that stays. -/
theorem absorb {D : List Nat} {ρs : Rg} {Q : Post} : ∀ (L : List (Nat × Bool)) (E : List Nat) (ρ : Rg) (H : AH) (al : List AOper), scanB l A E L = true → optMap (pickOp l) L = some al → EvOps C al ρ H Q → Inv l A D E L ρ ρs H →
    ∃ L' E' ρ' al', scanB l A E' L' = true ∧ optMap (pickOp l) L' = some al' ∧ EvOps C al' ρ' H Q ∧ Inv l A D E' L' ρ' ρs H ∧ fixedOf l A L' = fixedOf l A L ∧ (L' = [] ∨ ∃ x r, L' = (x, true) :: r ∧ flB l A x = false) := by
  intro L
  induction L with
  | nil => intro E ρ H al h1 h2 h3 h4; exact ⟨[], E, ρ, al, h1, h2, h3, h4, rfl, .inl rfl⟩
  | cons p L ih =>
    intro E ρ H al h1 h2 h3 h4
    obtain ⟨j, b⟩ := p
    unfold optMap at h2
    split at h2 <;> try (cases h2; done)
    rename_i ao al' hp hal
    injection h2 with h2
    subst h2
    cases b with
    | false =>
      simp only [scanB, Bool.and_eq_true] at h1
      obtain ⟨⟨hjE, hfj⟩, h1⟩ := h1
      obtain ⟨d, op, g, hj, hl, hlt, hspec⟩ := flB_spec hfj
      simp only [pickOp, hj, Option.some.injEq] at hp
      subst hp
      have hE : j ∈ E := by simpa using hjE
      unfold EvOps at h3
      dsimp only at h3
      -- the guard's answer, and what the operation gives again
      have key : EvOps C al' ρ H Q ∧ (wants ρ g = some true → ∃ v, ρ.get d = some v ∧ evOp ρ H op = some (v, H)) ∧ wants ρ g ≠ none := by
        split at h3
        · exact h3.elim
        · rename_i hw
          exact ⟨h3, (fun e => by rw [hw] at e; cases e), by rw [hw]; simp⟩
        · rename_i hw
          simp only [EvV] at h3
          split at h3
          · rename_i v H1 he
            have := evOp_light hl he
            subst this
            exact ⟨h3.2, fun _ => ⟨v, h3.1, he⟩, by rw [hw]; simp⟩
          · exact h3.elim
      obtain ⟨k1, k2, k3⟩ := key
      obtain ⟨L', E', ρ', al'', r1, r2, r3, r4, r5, r6⟩ := ih E ρ H al' h1 hal k1 ⟨h4.closed, h4.fixd, h4.flt, h4.eanc, h4.regs, fun i hi hf hn o ho => by
        obtain ⟨d', e1, hre⟩ := h4.again i hi hf hn o ho
        refine ⟨d', e1, ?_⟩
        rcases hre with ⟨hw, hre⟩ | hre
        · refine .inl ⟨hw, ?_⟩
          rcases hre with hre | hre
          · simp only [pend, List.takeWhile_cons] at hre
            simp only [Bool.not_false, if_true, List.mem_cons] at hre
            rcases hre with hre | hre
            · injection hre with hre _
              subst hre
              rw [hj] at ho
              injection ho with ho
              subst ho
              injection e1 with e1
              subst e1
              exact .inr (k2 hw)
            · exact .inl hre
          · exact .inr hre
        · exact .inr hre⟩
      refine ⟨L', E', ρ', al'', r1, r2, r3, r4, ?_, r6⟩
      rw [r5]
      simp [fixedOf]
    | true =>
      by_cases hfj : flB l A j = true
      · simp only [scanB, Bool.and_eq_true] at h1
        obtain ⟨⟨⟨hjE, hjn⟩, hfo⟩, h1⟩ := h1
        rw [if_pos hfj] at hfo
        simp only [flOk, Bool.and_eq_true] at hfo
        have hfo := And.intro hfo.1 (List.all_eq_true.1 hfo.2)
        have hjE' : j ∉ E := by simpa using hjE
        obtain ⟨d, op, g, hj, hl, hlt, hspec⟩ := flB_spec hfj
        simp only [pickOp, hj, Option.some.injEq] at hp
        subst hp
        have hjD : j ∉ D := fun h => hjE' (h4.flt j hfj h)
        have hself : d ∉ rdOf ⟨some d, op, g⟩ := fun hr => ((hspec j hlt).2.2 _ hj hr).2 rfl
        unfold EvOps at h3
        dsimp only at h3
        have fin : ∀ v, EvOps C al' (put ρ (some d) v) H Q → ((wants ρ g = some true ∧ evOp ρ H op = some (v, H)) ∨ (wants ρ g = some false ∧ v = .nul)) →
            ∃ L' E' ρ' al'', scanB l A E' L' = true ∧ optMap (pickOp l) L' = some al'' ∧ EvOps C al'' ρ' H Q ∧ Inv l A D E' L' ρ' ρs H ∧ fixedOf l A L' = fixedOf l A ((j, true) :: L) ∧ (L' = [] ∨ ∃ x r, L' = (x, true) :: r ∧ flB l A x = false) := by
          intro v hv hcase
          have hrr : ∀ r ∈ rdOf ⟨some d, op, g⟩, ρ.at r = (put ρ (some d) v).at r := by
            intro r hr'
            rw [put_at, if_neg (fun e : r = d => hself (by rw [← e]; exact hr'))]
          have hw : wants ρ g = wants (put ρ (some d) v) g := wants_congr fun r h => hrr r (by simp [rdOf, h])
          have hev : evOp ρ H op = evOp (put ρ (some d) v) H op := evOp_congr (light_again hl) fun r h => hrr r (by simp [rdOf, h])
          have inv : Inv l A D (j :: E) L (put ρ (some d) v) ρs H := by
            refine ⟨h4.closed, ?_, ?_, ?_, ?_, ?_⟩
            · intro i hi hf
              rw [h4.fixd i hi hf]
              have : i ≠ j := fun e => by subst e; rw [hfj] at hf; cases hf
              simp [this]
            · intro i hf hD
              simp [h4.flt i hf hD]
            · intro i hi hf x hx
              rcases List.mem_cons.1 hi with rfl | hi
              · have := hfo.2 x hx
                simp at this
                simp [this]
              · simp [h4.eanc i hi hf x hx]
            · intro r hr
              have hrd : r ≠ d := fun e => hr j (by simp) hfj hjD (by simp [dstOf, hj, e])
              rw [put_at, if_neg hrd]
              exact h4.regs r fun i hi hf hD => hr i (by simp [hi]) hf hD
            · intro i hi hf hD o ho
              rcases List.mem_cons.1 hi with rfl | hi
              · rw [hj] at ho
                injection ho with ho
                subst ho
                refine ⟨d, rfl, ?_⟩
                dsimp only
                rw [← hw, ← hev, put_get, if_pos rfl]
                rcases hcase with ⟨c1, c2⟩ | ⟨c1, c2⟩
                · exact .inl ⟨c1, .inr ⟨v, rfl, c2⟩⟩
                · exact .inr ⟨c1, by rw [c2]⟩
              · have hij : j ≠ i := fun e => hjE' (e ▸ hi)
                obtain ⟨d2, op2, g2, hi2, hl2, hlt2, hspec2⟩ := flB_spec hf
                rw [hi2] at ho
                injection ho with ho
                subst ho
                have hdj : dstOf l j = some d := by simp [dstOf, hj]
                refine (h4.again i hi hf hD _ hi2).keep (fun hp => ?_) (fun e => (hspec2 j hlt).1 hij (by rw [hdj, ← e])) (fun hr => ?_) (light_again hl2)
                · simp [pend] at hp
                · exact hjE' (h4.eanc i hi hf j ((hspec i hlt2).2.2 _ hi2 hr).1)
          obtain ⟨L', E', ρ', al'', r1, r2, r3, r4, r5, r6⟩ := ih (j :: E) (put ρ (some d) v) H al' h1 hal hv inv
          refine ⟨L', E', ρ', al'', r1, r2, r3, r4, ?_, r6⟩
          rw [r5]
          simp [fixedOf, hfj]
        split at h3
        · exact h3.elim
        · rename_i hw
          exact fin .nul h3 (.inr ⟨hw, rfl⟩)
        · rename_i hw
          obtain ⟨v, he, hv⟩ := (light_evV hl).1 h3
          exact fin v hv (.inl ⟨hw, he⟩)
      · refine ⟨(j, true) :: L, E, ρ, ao :: al', h1, ?_, h3, h4, rfl, .inr ⟨j, L, rfl, by simpa using hfj⟩⟩
        unfold optMap
        rw [hp, hal]

theorem tabOk_spec (hT : tabOk ops A = true) {i : Nat} {o : Oper} (ho : ops[i]? = some o) : (∀ p ∈ predsOf o, p < i) ∧ ∀ j ∈ A.getD i [], j ∈ predsOf o ∨ ∃ p ∈ predsOf o, j ∈ A.getD p [] := by
  unfold tabOk at hT
  rw [List.all_eq_true] at hT
  have hm : (o, i) ∈ ops.toList.zipIdx := by
    rw [List.mem_zipIdx_iff_getElem?]
    simpa using ho
  have := hT (o, i) hm
  simp only [Bool.and_eq_true, List.all_eq_true, Bool.or_eq_true, List.any_eq_true] at this
  obtain ⟨h1, h2⟩ := this
  refine ⟨fun p hp => by simpa [Nat.blt_eq] using h1 p hp, fun j hj => ?_⟩
  rcases h2 j hj with h | ⟨p, h3, h4⟩
  · exact .inl (by simpa using h)
  · exact .inr ⟨p, h3, by simpa using h4⟩

theorem trOper_spec {o : Oper} {ao : AOper} (h : trOper P N ops o = some ao) : trOp P o.op = some ao.op ∧ trGuard ops o.guard = some ao.guard ∧ ao.dst = o.dst ∧ okDst N o.dst = true := by
  unfold trOper at h
  split at h <;> try (cases h; done)
  rename_i x g h1 h2
  split at h <;> try (cases h; done)
  rename_i h3
  injection h with h
  subst h
  exact ⟨h1, h2, rfl, h3⟩
theorem trOp_again {o : Op} {a : AOp} (h : trOp P o = some a) : a.isAgain = false := by
  cases a <;> first | rfl | skip
  exfalso
  cases o <;> unfold trOp at h <;> (try dsimp only at h)
  case call c =>
    unfold trCall at h
    (repeat' split at h) <;> first | (cases h; done) | (unfold trLen at h; (repeat' split at h) <;> first | (cases h; done) | (injection h with h; cases h; done)) | (unfold trApp at h; (repeat' split at h) <;> first | (cases h; done) | (injection h with h; cases h; done)) | (injection h with h; cases h; done)
  case binOp => unfold trBin at h; (repeat' split at h) <;> first | (cases h; done) | (injection h with h; cases h; done)
  case makeFunc f x y => cases f <;> simp only [trMkF] at h <;> first | (cases h; done) | ((repeat' split at h) <;> first | (cases h; done) | (injection h with h; cases h; done))
  case makeMap r => cases r <;> simp [trMkM] at h
  all_goals first | (cases h; done) | ((repeat' split at h) <;> first | (cases h; done) | (injection h with h; cases h; done))

theorem drawn_sim (hT : tabOk ops A = true) (hl : optMap (trOper P N ops) ops.toList = some l) (OS : OperSim P CR C) {Q : Post} {F : Nat → Option Obj} {w0 : World} {b : Frame} {k : List Item} {cs : List Frame} :
    ∀ (s : List Nat) (D : List Nat), Sched ops D s → ∀ (E : List Nat) (L : List (Nat × Bool)) (ρ ρs : Rg) (H : AH) (al : List AOper) (ι : Inj) (w : World) (a : Act),
    scanB l A E L = true → optMap (pickOp l) L = some al → EvOps C al ρ H Q → Inv l A D E L ρ ρs H → (L = [] ∨ ∃ x r, L = (x, true) :: r ∧ flB l A x = false) → fixedOf l A L = s.filter (fun i => !flB l A i) →
    Rel CR F w0 ι H w → RRel ι N ρs a.tmps → RegOut P CR F w0 ι N Q (lone (frOn b a (.inRegion ops s :: k)) cs w) ops b a.defers k cs := by
  obtain ⟨hlen, hget⟩ := optMap_spec hl
  have hlen' : l.length = ops.size := by rw [← hlen]; simp
  have hop : ∀ (i : Nat) (o : Oper), ops[i]? = some o → ∃ ao, l[i]? = some ao ∧ trOper P N ops o = some ao := by
    intro i o ho
    exact hget i o (by simpa using ho)
  intro s
  induction s with
  | nil =>
    intro D hs E L ρ ρs H al ι w a h1 h2 h3 h4 h5 h6 R RR
    cases hs with
    | nil _ hD =>
      rcases h5 with rfl | ⟨x, r, rfl, hx⟩
      · simp only [optMap, Option.some.injEq] at h2
        subst h2
        refine .inl ⟨ρ, H, ι, w, a, h3, Inj.le.refl _, R, RR.of_at fun t => h4.regs t fun i hi hf hn => ?_, rfl, Steps.refl _ _⟩
        obtain ⟨d, op, g, _, _, hlt, _⟩ := flB_spec hf
        exact absurd (hD i (by omega)) hn
      · exfalso
        simp [fixedOf, hx] at h6
  | cons i s ih =>
    intro D hs E L ρ ρs H al ι w a h1 h2 h3 h4 h5 h6 R RR
    cases hs with
    | cons _ _ o _ ho hiD hpre hs =>
    obtain ⟨ao, hi, htr⟩ := hop i o ho
    obtain ⟨t1, t2, t3, t4⟩ := trOper_spec htr
    have hil : i < l.length := (List.getElem?_eq_some_iff.1 hi).1
    have hanc : ∀ j ∈ A.getD i [], j ∈ D := by
      intro j hj
      rcases (tabOk_spec hT ho).2 j hj with h | ⟨p, h, h'⟩
      · exact hpre j h
      · exact h4.closed p (hpre p h) j h'
    have hclosed : ∀ x ∈ i :: D, ∀ j ∈ A.getD x [], j ∈ i :: D := by
      intro x hx j hj
      rcases List.mem_cons.1 hx with rfl | hx
      · simp [hanc j hj]
      · simp [h4.closed x hx j hj]
    by_cases hf : flB l A i = true
    · obtain ⟨d, op, g, hi', hlt, _, hspec⟩ := flB_spec hf
      rw [hi] at hi'
      injection hi' with hi'
      subst hi'
      dsimp only at t1 t2 t3
      have hiE : i ∈ E := by
        rcases h5 with rfl | ⟨x, r, rfl, hx⟩
        · simp only [scanB, List.all_eq_true, List.mem_range] at h1
          simpa using h1 i hil
        · by_cases e : i ∈ E
          · exact e
          · exfalso
            simp only [scanB, Bool.and_eq_true] at h1
            have hne : i ≠ x := fun e => by subst e; rw [hf] at hx; cases hx
            obtain ⟨y, y1, y2, y3⟩ := scan_later r (x :: E) h1.2 i hil hf (by simp [e, hne]) x (by simp [hx])
            have hxl : x < l.length := by simpa [Nat.blt_eq] using h1.1.1.2
            have hn := h1.1.1.1
            rcases y3 with rfl | ⟨y3, y4⟩
            · have := (h4.fixd y hxl y1).1 (hanc y y2)
              simp [this] at hn
            · have := (h4.fixd y y4 y1).1 (hanc y y2)
              exact y3 (by simp [this])
      have hrr : ∀ r ∈ rdOf ⟨some d, op, g⟩, ρs.at r = ρ.at r := by
        intro r hr
        refine h4.regs r fun j hj hfj hnj e => hnj (hanc j ?_)
        obtain ⟨dj, opj, gj, hjj, _, _, hspj⟩ := flB_spec hfj
        have : dj = r := by simp [dstOf, hjj] at e; exact e
        subst this
        exact ((hspj i hil).2.2 _ hi hr).1
      have hw : wants ρs g = wants ρ g := wants_congr fun r h => hrr r (by simp [rdOf, h])
      have hev : evOp ρs H op = evOp ρ H op := evOp_congr (light_again hlt) fun r h => hrr r (by simp [rdOf, h])
      have inv : ∀ v, ρ.get d = some v → Inv l A (i :: D) E L ρ (put ρs (some d) v) H := by
        intro v hv
        refine ⟨hclosed, ?_, ?_, h4.eanc, ?_, ?_⟩
        · intro j hj hfj
          have hne : j ≠ i := fun e => by subst e; rw [hf] at hfj; cases hfj
          rw [← h4.fixd j hj hfj]
          simp [hne]
        · intro j hfj hjD
          rcases List.mem_cons.1 hjD with rfl | hjD
          · exact hiE
          · exact h4.flt j hfj hjD
        · intro r hr
          rw [put_at]
          by_cases e : r = d
          · subst e
            rw [if_pos rfl, get_at hv]
          · rw [if_neg e]
            refine h4.regs r fun j hj hfj hnj => ?_
            by_cases e2 : j = i
            · subst e2
              simp [dstOf, hi, Ne.symm e]
            · exact hr j hj hfj (by simp [e2, hnj])
        · intro j hj hfj hnj oj hoj
          exact h4.again j hj hfj (fun h => hnj (by simp [h])) oj hoj
      obtain ⟨d', e1, hre⟩ := h4.again i hiE hf hiD _ hi
      injection e1 with e1
      subst e1
      have hnp : ¬ pend L i := by
        rcases h5 with rfl | ⟨x, r, rfl, hx⟩ <;> simp [pend]
      rcases hre with ⟨hwt, hre⟩ | ⟨hwf, hnul⟩
      · rcases hre with hre | ⟨v, hgv, hevv⟩
        · exact absurd hre hnp
        dsimp only at hwt hevv
        rw [← hw] at hwt
        rw [← hev] at hevv
        have hwanted := wants_rel RR t2 hwt
        have hE : EvV C op ρs H (fun v' H' => v' = v ∧ H' = H) (fun _ _ => False) := (light_evV hlt).2 ⟨v, hevv, rfl, rfl⟩
        rcases OS N ρs H _ _ F w0 ι w b a k cs ops i s o op ho hwanted t1 hE R RR with ⟨v2, v', H', ι', w', ⟨rfl, rfl⟩, c2, c3, c4, c5⟩ | ⟨_, _, _, _, _, _, c1, _⟩
        · have := ih (i :: D) hs E L ρ (put ρs (some d) v2) H' al ι' w' (a.put o.dst v') h1 h2 h3 (inv v2 hgv) h5 (by rw [h6]; simp [hf]) c3 (by
            have := (RR.mono c2).put (d := o.dst) t4 c4
            rw [← t3] at this
            exact t3 ▸ this)
          rw [put_defers] at this
          exact this.of_steps c5 c2
        · exact c1.elim
      · dsimp only at hwf
        rw [← hw] at hwf
        have hwanted := wants_rel RR t2 hwf
        have hstep := st_op_skip (P := P) (b := b) (a := a) (k := k) (cs := cs) (w := w) (ops := ops) (i := i) (rest := s) (by simp [ho, hwanted])
        rw [ho] at hstep
        simp only [Option.bind_some] at hstep
        have := ih (i :: D) hs E L ρ (put ρs (some d) .nul) H al ι w (a.put o.dst undef) h1 h2 h3 (inv .nul hnul) h5 (by rw [h6]; simp [hf]) R (by
            have := RR.put (d := o.dst) t4 (nul_rel ι)
            rw [← t3] at this
            exact t3 ▸ this)
        rw [put_defers] at this
        exact this.of_steps (.one hstep) (Inj.le.refl _)
    · have hf : flB l A i = false := by simpa using hf
      rcases h5 with rfl | ⟨x, r, rfl, hx⟩
      · exfalso
        simp [fixedOf, hf] at h6
      have hxi : x = i ∧ fixedOf l A r = s.filter (fun i => !flB l A i) := by
        simp [fixedOf, hx, hf] at h6
        exact ⟨h6.1, by simp [fixedOf, h6.2]⟩
      obtain ⟨rfl, h6'⟩ := hxi
      unfold optMap at h2
      split at h2 <;> try (cases h2; done)
      rename_i ao2 al' hp hal
      injection h2 with h2
      subst h2
      simp only [pickOp, hi, Option.some.injEq] at hp
      subst hp
      simp only [scanB, Bool.and_eq_true] at h1
      obtain ⟨⟨⟨hxE, hxl⟩, hfix⟩, h1⟩ := h1
      rw [if_neg (by simp [hf])] at hfix
      simp only [fixOk, Bool.and_eq_true, List.all_eq_true, List.mem_range] at hfix
      obtain ⟨f1, f3⟩ := hfix
      have hxE : x ∉ E := by simpa using hxE
      have hrr : ∀ q ∈ rdOf ao, ρs.at q = ρ.at q := by
        intro q hq
        refine h4.regs q fun j hj hfj hnj e => hnj (hanc j ?_)
        obtain ⟨dj, opj, gj, hjj, _, _, hspj⟩ := flB_spec hfj
        have : dj = q := by simp [dstOf, hjj] at e; exact e
        subst this
        exact ((hspj x hil).2.2 _ hi hq).1
      have hw : wants ρs ao.guard = wants ρ ao.guard := wants_congr fun r h => hrr r (by simp [rdOf, h])
      have hag := trOp_again t1
      have inv : ∀ v H', (ao.op.light = true → H' = H) → Inv l A (x :: D) (x :: E) r (put ρ o.dst v) (put ρs o.dst v) H' := by
        intro v H' hlH
        refine ⟨hclosed, ?_, ?_, ?_, ?_, ?_⟩
        · intro j hj hfj
          simp [h4.fixd j hj hfj]
        · intro j hfj hjD
          rcases List.mem_cons.1 hjD with rfl | hjD
          · simp
          · simp [h4.flt j hfj hjD]
        · intro j hj hfj y hy
          rcases List.mem_cons.1 hj with rfl | hj
          · rw [hf] at hfj; cases hfj
          · simp [h4.eanc j hj hfj y hy]
        · intro q hq
          have base : ρs.at q = ρ.at q ∨ o.dst = some q := by
            by_cases e : o.dst = some q
            · exact .inr e
            · refine .inl (h4.regs q fun j hj hfj hnj => hq j (by simp [hj]) hfj fun h => ?_)
              rcases List.mem_cons.1 h with rfl | h
              · rw [hf] at hfj; cases hfj
              · exact hnj h
          cases hd : o.dst with
          | none => rw [hd] at base; simpa [put] using base
          | some d =>
            rw [put_at, put_at]
            by_cases e : q = d
            · rw [if_pos e, if_pos e]
            · rw [if_neg e, if_neg e]
              rcases base with h | h
              · exact h
              · rw [hd] at h; injection h with h; exact absurd h.symm e
        · intro j hj hfj hnj oj hoj
          have hjx : j ≠ x := fun e => by subst e; rw [hf] at hfj; cases hfj
          have hjE : j ∈ E := by rcases List.mem_cons.1 hj with e | e; exact absurd e hjx; exact e
          have hjD : j ∉ D := fun h => hnj (by simp [h])
          obtain ⟨dj, opj, gj, hoj', hlj, hltj, hspj⟩ := flB_spec hfj
          have hagain := h4.again j hjE hfj hjD oj hoj
          rw [hoj] at hoj'
          injection hoj' with hoj'
          subst hoj'
          have hxa : x ∉ A.getD j [] := by
            have := f1 j hjE
            rw [hfj] at this
            simpa using this
          -- in the new heap
          have hheap : Re (pend r j) ⟨some dj, opj, gj⟩ ρ H' := by
            obtain ⟨d2, e1, hre⟩ := hagain
            refine ⟨d2, e1, ?_⟩
            rcases hre with ⟨hwt, hre⟩ | hre
            · refine .inl ⟨hwt, ?_⟩
              rcases hre with hre | ⟨v2, hv2, hev2⟩
              · simp [pend] at hre
              · by_cases hlx : ao.op.light = true
                · rw [hlH hlx]; exact .inr ⟨v2, hv2, hev2⟩
                · by_cases hlk : opj.looks = true
                  · left
                    have hlx' : lightB l x = false := by simp [lightB, hi]; simpa using hlx
                    rw [hlx'] at f3
                    simp only [Bool.false_or, List.all_eq_true] at f3
                    have := f3 j hjE
                    have hlk' : looksB l j = true := by simp [looksB, hoj]; exact hlk
                    rw [hfj, hlk'] at this
                    simp only [Bool.not_true, Bool.false_or, Bool.or_eq_true] at this
                    rcases this with h | h
                    · exact absurd (hanc j (by simpa using h)) hjD
                    · simpa [pend] using h
                  · exact .inr ⟨v2, hv2, evOp_pure hlj (by simpa using hlk) hev2⟩
            · exact .inr hre
          cases hd : o.dst with
          | none => simpa [put] using hheap
          | some d =>
            have hdx : dstOf l x = some d := by simp [dstOf, hi, t3, hd]
            refine hheap.keep id (fun e => (hspj x hil).1 (Ne.symm hjx) (by rw [hdx, ← e])) (fun hr => ?_) (light_again hlj)
            rcases ((hspj x hil).2.1 d hr hdx).1 with h | h
            · exact hxa h
            · exact hjD (hanc j h)
      have next : ∀ v v' H' ι' w', (ao.op.light = true → H' = H) → EvOps C al' (put ρ o.dst v) H' Q → ι.le ι' → Rel CR F w0 ι' H' w' → VRel ι' v v' →
          Steps P (lone (frOn b a (.inRegion ops (x :: s) :: k)) cs w) (lone (frOn b (a.put o.dst v') (.inRegion ops s :: k)) cs w') → RegOut P CR F w0 ι N Q (lone (frOn b a (.inRegion ops (x :: s) :: k)) cs w) ops b a.defers k cs := by
        intro v v' H' ι' w' hlH hK c2 c3 c4 c5
        obtain ⟨L', E', ρ', al'', r1, r2, r3, r4, r5, r6⟩ := absorb r (x :: E) (put ρ o.dst v) H' al' h1 hal hK (inv v H' hlH)
        have := ih (x :: D) hs E' L' ρ' (put ρs o.dst v) H' al'' ι' w' (a.put o.dst v') r1 r2 r3 r4 r6 (by rw [r5, h6']) c3 ((RR.mono c2).put t4 c4)
        rw [put_defers] at this
        exact this.of_steps c5 c2
      unfold EvOps at h3
      rw [t3] at h3
      split at h3
      · exact h3.elim
      · rename_i hwf
        rw [← hw] at hwf
        have hwanted := wants_rel RR t2 hwf
        have hstep := st_op_skip (P := P) (b := b) (a := a) (k := k) (cs := cs) (w := w) (ops := ops) (i := x) (rest := s) (by simp [ho, hwanted])
        rw [ho] at hstep
        simp only [Option.bind_some] at hstep
        exact next .nul undef H ι w (fun _ => rfl) h3 (Inj.le.refl _) R (nul_rel ι) (.one hstep)
      · rename_i hwt
        rw [← hw] at hwt
        have hwanted := wants_rel RR t2 hwt
        have hcg : ∀ K Pn, EvV C ao.op ρ H K Pn → EvV C ao.op ρs H K Pn := by
          intro K Pn h
          rw [evV_congr hag fun r h => hrr r (by simp [rdOf, h])]
          exact h
        by_cases hlx : ao.op.light = true
        · obtain ⟨v, hev, hK⟩ := (light_evV hlx).1 h3
          have hE : EvV C ao.op ρs H (fun v' H' => v' = v ∧ H' = H) (fun _ _ => False) := hcg _ _ ((light_evV hlx).2 ⟨v, hev, rfl, rfl⟩)
          rcases OS N ρs H _ _ F w0 ι w b a k cs ops x s o ao.op ho hwanted t1 hE R RR with ⟨v2, v', H', ι', w', ⟨rfl, rfl⟩, c2, c3, c4, c5⟩ | ⟨_, _, _, _, _, _, c1, _⟩
          · exact next v2 v' H' ι' w' (fun _ => rfl) hK c2 c3 c4 c5
          · exact c1.elim
        · rcases OS N ρs H _ _ F w0 ι w b a k cs ops x s o ao.op ho hwanted t1 (hcg _ _ h3) R RR with ⟨v2, v', H', ι', w', c1, c2, c3, c4, c5⟩ | ⟨v2, v', H', ι', w', fr, c1, c2, c3, c4, c5, c6⟩
          · exact next v2 v' H' ι' w' (fun h => absurd h hlx) c1 c2 c3 c4 c5
          · exact .inr ⟨v2, v', ρ, H', ι', w', fr, c1, c2, c3, c4, c5, c6⟩
end
end Rst
/- A region whose order is drawn: some walked order fits each order that may be drawn. -/
set_option linter.unusedVariables false
set_option linter.unusedSimpArgs false
namespace Rst
open Go

inductive Ord (A : List (List Nat)) : List Nat → List Nat → Prop
  | nil : Ord A [] []
  | cons (x : Nat) (left f : List Nat) : x ∈ left → (∀ y ∈ A.getD x [], y ∉ left) → Ord A (left.filter fun y => !(y == x)) f → Ord A left (x :: f)

theorem cover_spec {A : List (List Nat)} : ∀ (n : Nat) (D left : List Nat) (fs : List (List Nat)), coverB A n D left fs = true → ∀ f, Ord A left f → f ∈ fs := by
  intro n
  induction n with
  | zero => intro D left fs h; simp [coverB] at h
  | succ n ih =>
    intro D left fs h f hf
    unfold coverB at h
    cases hf with
    | nil =>
      simp only [List.isEmpty_nil, Bool.true_and, Bool.not_true, Bool.false_and, Bool.or_false, List.any_eq_true] at h
      obtain ⟨g, h1, h2⟩ := h
      rw [List.isEmpty_iff] at h2
      exact h2 ▸ h1
    | cons x _ f hx hy hf =>
      have hne : left.isEmpty = false := by cases left <;> simp_all
      rw [hne] at h
      simp only [Bool.false_and, Bool.not_false, Bool.true_and, Bool.false_or, List.all_eq_true] at h
      have hx' := h x hx
      rw [Bool.or_eq_true] at hx'
      rcases hx' with h1 | h1
      · exfalso
        rw [List.any_eq_true] at h1
        obtain ⟨y, hy1, hy2⟩ := h1
        exact hy y hy1 (by simpa using hy2)
      · have := ih _ _ _ h1 f hf
        rw [List.mem_filterMap] at this
        obtain ⟨g, hg1, hg2⟩ := this
        cases g with
        | nil => simp at hg2
        | cons y r =>
          simp only at hg2
          split at hg2
          · rename_i e
            simp at hg2 e
            subst hg2 e
            exact hg1
          · cases hg2

section
variable {P : Program} {CR : CodeRel} {C : CallSem} {N : Nat} {ops : Array Oper} {l : List AOper} {A : List (List Nat)}

theorem sched_ord (hT : tabOk ops A = true) (hlen : l.length = ops.size) : ∀ (s D : List Nat), Sched ops D s → (∀ i ∈ D, ∀ j ∈ A.getD i [], j ∈ D) →
    Ord A (((List.range l.length).filter fun i => !flB l A i).filter fun i => !D.contains i) (s.filter fun i => !flB l A i) := by
  intro s
  induction s with
  | nil =>
    intro D hs hcl
    cases hs with
    | nil _ hD =>
      have : (((List.range l.length).filter fun i => !flB l A i).filter fun i => !D.contains i) = [] := by
        rw [List.filter_eq_nil_iff]
        intro i hi
        have := List.mem_range.1 (List.mem_filter.1 hi).1
        have := hD i (by omega)
        simpa using this
      rw [this]
      exact .nil
  | cons i s ih =>
    intro D hs hcl
    cases hs with
    | cons _ _ o _ ho hiD hpre hs =>
    have hil : i < l.length := by rw [hlen]; exact (Array.getElem?_eq_some_iff.1 ho).1
    have hanc : ∀ j ∈ A.getD i [], j ∈ D := by
      intro j hj
      rcases (tabOk_spec hT ho).2 j hj with h | ⟨p, h, h'⟩
      · exact hpre j h
      · exact hcl p (hpre p h) j h'
    have hclosed : ∀ x ∈ i :: D, ∀ j ∈ A.getD x [], j ∈ i :: D := by
      intro x hx j hj
      rcases List.mem_cons.1 hx with rfl | hx
      · simp [hanc j hj]
      · simp [hcl x hx j hj]
    have hih := ih (i :: D) hs hclosed
    by_cases hf : flB l A i = true
    · have e : (((List.range l.length).filter fun i => !flB l A i).filter fun j => !(i :: D).contains j) = (((List.range l.length).filter fun i => !flB l A i).filter fun i => !D.contains i) := by
        refine List.filter_congr fun j hj => ?_
        have h2 := (List.mem_filter.1 hj).2
        have : j ≠ i := fun e => by subst e; simp [hf] at h2
        simp [this]
      rw [e] at hih
      simpa [hf] using hih
    · have hf : flB l A i = false := by simpa using hf
      rw [List.filter_cons]
      simp only [hf, Bool.not_false, if_true]
      refine .cons i _ _ ?_ ?_ ?_
      · simp [List.mem_filter, hil, hf, hiD]
      · intro y hy hm
        have h2 := (List.mem_filter.1 hm).2
        have := hanc y hy
        simp [this] at h2
      · have e : (((List.range l.length).filter fun i => !flB l A i).filter fun j => !(i :: D).contains j) = ((((List.range l.length).filter fun i => !flB l A i).filter fun i => !D.contains i).filter fun y => !(y == i)) := by
          generalize ((List.range l.length).filter fun i => !flB l A i) = z
          rw [List.filter_filter]
          refine List.filter_congr fun j hj => ?_
          by_cases e : j = i <;> simp [e]
        rw [← e]
        exact hih

theorem evAlts_all {C : CallSem} {ρ : Rg} {H : AH} {Q : Post} : ∀ {als : List (List AOper)}, EvAlts C als ρ H Q → ∀ al ∈ als, EvOps C al ρ H Q
  | [], h => by intro al hal; simp at hal
  | [x], h => by intro al hal; simp at hal; subst hal; exact h
  | x :: y :: r, h => by
    intro al hal
    rcases List.mem_cons.1 hal with rfl | hal
    · exact h.1
    · exact evAlts_all h.2 al hal

theorem drawn_region {alts : List (List (Nat × Bool))} (hb : altsB ops l alts = true) (hl : optMap (trOper P N ops) ops.toList = some l) (OS : OperSim P CR C) {als : List (List AOper)} (hal : optMap (optMap (pickOp l)) alts = some als)
    {Q : Post} {F : Nat → Option Obj} {w0 : World} {b : Frame} {k : List Item} {cs : List Frame} {ρ : Rg} {H : AH} {ι : Inj} {w : World} {a : Act} (hE : EvAlts C als ρ H Q) (R : Rel CR F w0 ι H w) (RR : RRel ι N ρ a.tmps)
    {s : List Nat} (hs : Sched ops [] s) : RegOut P CR F w0 ι N Q (lone (frOn b a (.inRegion ops s :: k)) cs w) ops b a.defers k cs := by
  simp only [altsB, Bool.and_eq_true] at hb
  obtain ⟨⟨⟨hT, hscan⟩, hcov⟩, _⟩ := hb
  have hlen : l.length = ops.size := by rw [← (optMap_spec hl).1]; simp
  have hord := sched_ord (l := l) hT hlen s [] hs (by simp)
  have hfx : (((List.range l.length).filter fun i => !flB l (ancTab ops) i).filter fun i => !([] : List Nat).contains i) = (List.range l.length).filter fun i => !flB l (ancTab ops) i := by
    rw [List.filter_eq_self]; simp
  rw [hfx] at hord
  have hmem := cover_spec _ _ _ _ hcov _ hord
  obtain ⟨alt, ha1, ha2⟩ := List.mem_map.1 hmem
  obtain ⟨j, hj⟩ := List.mem_iff_getElem?.1 ha1
  obtain ⟨al, hj2, hal2⟩ := (optMap_spec hal).2 j alt hj
  have hEv := evAlts_all hE al (List.mem_of_getElem? hj2)
  rw [List.all_eq_true] at hscan
  have hsc := hscan alt ha1
  have inv : Inv l (ancTab ops) [] [] alt ρ ρ H := ⟨by simp, by simp, by simp, by simp, fun _ _ => rfl, by simp⟩
  obtain ⟨L', E', ρ', al', r1, r2, r3, r4, r5, r6⟩ := absorb alt [] ρ H al hsc hal2 hEv inv
  exact drawn_sim hT hl OS s [] hs E' L' ρ' ρ H al' ι w a r1 r2 r3 r4 r6 (by rw [r5, ha2]) R RR

theorem tab_back (hT : tabOk ops A = true) : ∀ i o, ops[i]? = some o → ∀ p ∈ predsOf o, p < i := fun i o ho => (tabOk_spec hT ho).1

/-- A region in the order of its text. -/
theorem text_region (hl : optMap (trOper P N ops) ops.toList = some l) (OS : OperSim P CR C) {Q : Post} {F : Nat → Option Obj} {w0 : World} {b : Frame} {k : List Item} {cs : List Frame} :
    ∀ (n i : Nat), i + n = ops.size → ∀ (ρ : Rg) (H : AH) (ι : Inj) (w : World) (a : Act), EvOps C (l.drop i) ρ H Q → Rel CR F w0 ι H w → RRel ι N ρ a.tmps →
      RegOut P CR F w0 ι N Q (lone (frOn b a (.inRegion ops (List.range' i n) :: k)) cs w) ops b a.defers k cs := by
  obtain ⟨hlen, hget⟩ := optMap_spec hl
  have hlen' : l.length = ops.size := by rw [← hlen]; simp
  intro n
  induction n with
  | zero =>
    intro i hi ρ H ι w a h R RR
    rw [List.drop_of_length_le (by omega)] at h
    exact .inl ⟨ρ, H, ι, w, a, h, Inj.le.refl _, R, RR, rfl, Steps.refl _ _⟩
  | succ n ih =>
    intro i hi ρ H ι w a h R RR
    have hlt : i < ops.size := by omega
    have ho : ops[i]? = some ops[i] := Array.getElem?_eq_getElem hlt
    obtain ⟨ao, hi2, htr⟩ := hget i ops[i] (by simp)
    obtain ⟨t1, t2, t3, t4⟩ := trOper_spec htr
    have hdrop : l.drop i = ao :: l.drop (i + 1) := by
      have hl2 : i < l.length := by omega
      rw [List.drop_eq_getElem_cons hl2]
      rw [List.getElem?_eq_getElem hl2] at hi2
      injection hi2 with hi2
      rw [hi2]
    rw [hdrop] at h
    rw [List.range'_succ]
    have next : ∀ v v' H' ι' w', EvOps C (l.drop (i + 1)) (put ρ ops[i].dst v) H' Q → ι.le ι' → Rel CR F w0 ι' H' w' → VRel ι' v v' →
        Steps P (lone (frOn b a (.inRegion ops (i :: List.range' (i + 1) n) :: k)) cs w) (lone (frOn b (a.put ops[i].dst v') (.inRegion ops (List.range' (i + 1) n) :: k)) cs w') →
        RegOut P CR F w0 ι N Q (lone (frOn b a (.inRegion ops (i :: List.range' (i + 1) n) :: k)) cs w) ops b a.defers k cs := by
      intro v v' H' ι' w' hK c2 c3 c4 c5
      have := ih (i + 1) (by omega) (put ρ ops[i].dst v) H' ι' w' (a.put ops[i].dst v') hK c3 ((RR.mono c2).put t4 c4)
      rw [put_defers] at this
      exact this.of_steps c5 c2
    unfold EvOps at h
    rw [t3] at h
    split at h
    · exact h.elim
    · rename_i hwf
      have hwanted := wants_rel RR t2 hwf
      have hstep := st_op_skip (P := P) (b := b) (a := a) (k := k) (cs := cs) (w := w) (ops := ops) (i := i) (rest := List.range' (i + 1) n) (by simp [ho, hwanted])
      rw [ho] at hstep
      simp only [Option.bind_some] at hstep
      exact next .nul undef H ι w h (Inj.le.refl _) R (nul_rel ι) (.one hstep)
    · rename_i hwt
      have hwanted := wants_rel RR t2 hwt
      rcases OS N ρ H _ _ F w0 ι w b a k cs ops i (List.range' (i + 1) n) ops[i] ao.op ho hwanted t1 h R RR with ⟨v2, v', H', ι', w', c1, c2, c3, c4, c5⟩ | ⟨v2, v', H', ι', w', fr, c1, c2, c3, c4, c5, c6⟩
      · exact next v2 v' H' ι' w' c1 c2 c3 c4 c5
      · exact .inr ⟨v2, v', ρ, H', ι', w', fr, c1, c2, c3, c4, c5, c6⟩
end
end Rst
/- What code comes to in the abstract machine is what the model's machine comes to. -/
set_option linter.unusedVariables false
set_option linter.unusedSimpArgs false
namespace Rst
open Go

def trC (P : Program) (hint : Hint) (N : Nat) : Bool → Code → Option ACode
  | _, .skip => some .skip
  | _, .region id ops draw => match optMap (trOper P N ops) ops.toList with
    | some l => if draw = true then (if altsB ops l (hint id) = true then match optMap (optMap (pickOp l)) (hint id) with
        | some als => some (.alts als)
        | none => none
      else none) else some (.region l)
    | none => none
  | rf, .seq a b => match trC P hint N rf a, trC P hint N rf b with
    | some x, some y => some (.seq x y)
    | _, _ => none
  | rf, .cond c a b => match trO c, trC P hint N rf a, trC P hint N rf b with
    | some c, some x, some y => some (.cond c x y)
    | _, _, _ => none
  | rf, .block id b => match trC P hint N rf b with
    | some x => some (.block id x)
    | none => none
  | rf, .loop b => match trC P hint N rf b with
    | some x => some (.loop x)
    | none => none
  | rf, .rangeFunc f ps asg body => if rf = true ∧ (ps.toList.all fun p => Nat.blt p N) = true then match trO f, trC P hint N false asg, trC P hint N false body with
      | some g, some x, some y => some (.rangeFunc g ps.toList x y)
      | _, _, _ => none
    else none
  | _, .exit id => some (.exit id)
  | rf, .scope b => match trC P hint N rf b with
    | some x => some (.scope x x)
    | none => none
  | _, .label l => some (.label l)
  | _, .goto l => some (.goto l)
  | _, .ret => some .ret
  | _, .refuse _ => none

/-- Code and its translation. -/
def CRl (P : Program) : CodeRel := fun n c a => ∃ hint, trC P hint n false c = some a

/-! ### Marks: the blocks for deferred calls that a loop over a function leaves -/
def marks (ms : List Nat) : List Deferred := ms.map fun r => { target := .collected r, args := #[] }
def Fx (F : Nat → Option Obj) (ms : List Nat) : Nat → Option Obj := fun r => if r ∈ ms then some (.deferred (some [])) else F r
def MOk (F : Nat → Option Obj) (ms : List Nat) : Prop := ms.Nodup ∧ ∀ r ∈ ms, F r = none
theorem Fx_nil (F : Nat → Option Obj) : Fx F [] = F := by funext r; simp [Fx]

section
variable {P : Program} {CR : CodeRel} {F : Nat → Option Obj} {w0 : World} {ι : Inj} {H : AH} {w : World}

theorem Rel.unmark {r : Nat} {ms : List Nat} (R : Rel CR (Fx F (r :: ms)) w0 ι H w) (hm : MOk F (r :: ms)) : Rel CR (Fx F ms) w0 ι H { w with heap := w.heap.set! r (.deferred none) } := by
  have hr : w.heap[r]? = some (.deferred (some [])) := R.frame r _ (by simp [Fx])
  obtain ⟨hnd, hno⟩ := hm
  rw [List.nodup_cons] at hnd
  have hne : ∀ (g : Nat) (x : Obj), w.heap[g]? = some x → x ≠ Obj.deferred (some []) → (w.heap.set! r (.deferred none))[g]? = some x := by
    intro g x hx hn
    have : g ≠ r := fun e => by subst e; rw [hr] at hx; injection hx with hx; exact hn hx.symm
    simp [Array.getElem?_setIfInBounds, Ne.symm this, hx]
  refine ⟨R.os, R.tape, R.output, by simpa using R.size, ?_, R.dom, ?_, ?_⟩
  · intro g x hg
    have hgr : g ≠ r := by
      intro e
      subst e
      simp [Fx, hnd.1, hno g (by simp)] at hg
    have : Fx F (r :: ms) g = some x := by
      simp only [Fx, List.mem_cons, hgr, false_or] at hg ⊢
      exact hg
    have := R.frame g x this
    simp [Array.getElem?_setIfInBounds, Ne.symm hgr, this]
  · intro b o ho hl
    obtain ⟨g, off, N, x, h1, h2, h3⟩ := R.blk b o ho hl
    exact ⟨g, off, N, x, h1, hne g x h2 (fun e => by subst e; cases h3), h3⟩
  · intro b o g off ho hown hi
    obtain ⟨h1, h2⟩ := R.sep b o g off ho hown hi
    refine ⟨?_, h2⟩
    simp only [Fx, List.mem_cons] at h1 ⊢
    split at h1
    · cases h1
    · rename_i h
      rw [if_neg (fun e => h (.inr e))]
      exact h1

theorem Rel.mark (R : Rel CR F w0 ι H w) : Rel CR (fun r => if r = w.heap.size then some (.deferred (some [])) else F r) w0 ι H (w.alloc (.deferred (some []))) := by
  refine ⟨R.os, R.tape, R.output, Nat.le_trans R.size (by simp), ?_, R.dom, ?_, ?_⟩
  · intro g x hg
    by_cases e : g = w.heap.size
    · subst e
      simp only [if_true, Option.some.injEq] at hg
      subst hg
      exact heap_new _ _
    · simp only [if_neg e] at hg
      exact heap_push (R.frame g x hg)
  · intro b o ho hl
    obtain ⟨g, off, N, x, h1, h2, h3⟩ := R.blk b o ho hl
    exact ⟨g, off, N, x, h1, heap_push h2, h3⟩
  · intro b o g off ho hown hi
    obtain ⟨h1, h2⟩ := R.sep b o g off ho hown hi
    refine ⟨?_, h2⟩
    have hl : o.live = true := by cases o <;> simp_all [ABlk.owned, ABlk.live]
    obtain ⟨g', off', N, x, e1, e2, _⟩ := R.blk b o ho hl
    rw [hi] at e1
    injection e1 with e1
    injection e1 with e1 _
    subst e1
    have := heap_lt e2
    rw [if_neg (by omega)]
    exact h1
theorem Rel.markFx {ms : List Nat} (R : Rel CR (Fx F ms) w0 ι H w) (hm : MOk F ms) : Rel CR (Fx F (w.heap.size :: ms)) w0 ι H (w.alloc (.deferred (some []))) ∧ MOk F (w.heap.size :: ms) := by
  have hfree : ∀ r x, Fx F ms r = some x → r ≠ w.heap.size := fun r x h e => by
    have := heap_lt (R.frame r x h)
    omega
  refine ⟨?_, ?_, ?_⟩
  · have := R.mark
    have e : (fun r => if r = w.heap.size then some (.deferred (some [])) else Fx F ms r) = Fx F (w.heap.size :: ms) := by
      funext r
      simp only [Fx, List.mem_cons]
      by_cases h : r = w.heap.size <;> simp [h]
    rw [e] at this
    exact this
  · rw [List.nodup_cons]
    refine ⟨fun h => hfree w.heap.size (.deferred (some [])) (by simp only [Fx, if_pos h]) rfl, hm.1⟩
  · intro r hr
    rcases List.mem_cons.1 hr with rfl | hr
    · cases hF : F w.heap.size with
      | none => rfl
      | some x =>
        exfalso
        by_cases h : w.heap.size ∈ ms
        · exact hfree _ (.deferred (some [])) (by simp only [Fx, if_pos h]) rfl
        · exact hfree w.heap.size x (by simp only [Fx, if_neg h]; exact hF) rfl
    · exact hm.2 r hr

theorem st_mark {fr : Frame} {cs : List Frame} {r : Nat} {ds : List Deferred} (hd : fr.defers = { target := .collected r, args := #[] } :: ds) (hm : (∃ chain, fr.mode = .panicking chain) ∨ fr.mode = .returning) (hr : w.heap[r]? = some (.deferred (some []))) :
    step P (lone fr cs w) = .next (lone { fr with defers := ds } cs { w with heap := w.heap.set! r (.deferred none) }) := by
  refine step_lone_go ?_
  have hrun : (Instr.takeDeferred r).run P w = .ok [] { w with heap := w.heap.set! r (.deferred none) } := by
    simp [Instr.takeDeferred, getObj, setObj, Sem.run, hr]
  rcases hm with ⟨chain, hm⟩ | hm <;> simp [stepG, unwind, hm, hd, hrun]

theorem unwind_marks {cs : List Frame} : ∀ (ms : List Nat) (w : World), MOk F ms → Rel CR (Fx F ms) w0 ι H w → ∀ fr : Frame, fr.defers = marks ms → ((∃ chain, fr.mode = .panicking chain) ∨ fr.mode = .returning) →
    ∃ w', Rel CR F w0 ι H w' ∧ Steps P (lone fr cs w) (lone { fr with defers := [] } cs w') := by
  intro ms
  induction ms with
  | nil =>
    intro w hm R fr hd hmode
    rw [Fx_nil] at R
    have : { fr with defers := [] } = fr := by
      cases fr
      simp only [marks, List.map_nil] at hd
      subst hd
      rfl
    rw [this]
    exact ⟨w, R, Steps.refl _ _⟩
  | cons r ms ih =>
    intro w hm R fr hd hmode
    have hr : w.heap[r]? = some (.deferred (some [])) := R.frame r _ (by simp [Fx])
    have hstep := st_mark (P := P) (cs := cs) (ds := marks ms) hd hmode hr
    have hm' : MOk F ms := ⟨(List.nodup_cons.1 hm.1).2, fun r' h => hm.2 r' (by simp [h])⟩
    obtain ⟨w', h1, h2⟩ := ih _ hm' (R.unmark hm) { fr with defers := marks ms } rfl hmode
    exact ⟨w', h1, .head hstep h2⟩
end

/-! ### What the walks come to -/
def Arr (P : Program) (m : Machine) (b : Frame) (k : List Item) (cs : List Frame) (ι : Inj) (N : Nat) (ρ : Rg) (ds : List Deferred) (w : World) : AEx → Prop
  | .nrm => ∃ a : Act, a.defers = ds ∧ RRel ι N ρ a.tmps ∧ Steps P m (lone (frOn b a k) cs w)
  | .exit id => ∃ (a : Act) (k' : List Item), a.defers = ds ∧ RRel ι N ρ a.tmps ∧ exitTo id k' = exitTo id k ∧ Steps P m (lone (frOn b a (.code (.exit id) :: k')) cs w)
  | .goto l => ∃ (a : Act) (k' : List Item), a.defers = ds ∧ RRel ι N ρ a.tmps ∧ gotoIn l k' = gotoIn l k ∧ Steps P m (lone (frOn b a (.code (.goto l) :: k')) cs w)
  | .ret => ∃ (a : Act) (k' : List Item), a.defers = ds ∧ RRel ι N ρ a.tmps ∧ Steps P m (lone (frOn b a (.code .ret :: k')) cs w)
  | .pan v => ∃ v' fr, VRel ι v v' ∧ PanFr b ds v' fr ∧ Steps P m (lone fr cs w)
theorem Arr.of_steps {P : Program} {m m1 : Machine} {b : Frame} {k : List Item} {cs : List Frame} {ι : Inj} {N : Nat} {ρ : Rg} {ds : List Deferred} {w : World} {e : AEx} (hs : Steps P m m1) (h : Arr P m1 b k cs ι N ρ ds w e) : Arr P m b k cs ι N ρ ds w e := by
  cases e with
  | nrm => obtain ⟨a, h1, h2, h3⟩ := h; exact ⟨a, h1, h2, hs.trans h3⟩
  | exit id => obtain ⟨a, k', h1, h2, h3, h4⟩ := h; exact ⟨a, k', h1, h2, h3, hs.trans h4⟩
  | goto l => obtain ⟨a, k', h1, h2, h3, h4⟩ := h; exact ⟨a, k', h1, h2, h3, hs.trans h4⟩
  | ret => obtain ⟨a, k', h1, h2, h3⟩ := h; exact ⟨a, k', h1, h2, hs.trans h3⟩
  | pan v => obtain ⟨v', fr, h1, h2, h3⟩ := h; exact ⟨v', fr, h1, h2, hs.trans h3⟩

def CodeOut (P : Program) (F : Nat → Option Obj) (w0 : World) (ι : Inj) (N : Nat) (rf : Bool) (ms : List Nat) (Q : Post) (m : Machine) (b : Frame) (k : List Item) (cs : List Frame) : Prop :=
  ∃ e ρ' H' ι' w' ms', Q e ρ' H' ∧ ι.le ι' ∧ MOk F ms' ∧ (rf = false → ms' = ms) ∧ Rel (CRl P) (Fx F ms') w0 ι' H' w' ∧ Arr P m b k cs ι' N ρ' (marks ms') w' e
def Opens (it : Item) (c : Code) : Prop := it = .code c ∨ ∃ b, c = .loop b ∧ it = .inLoop b
def CodeSim (P : Program) (T : FTab) (n : Nat) : Prop :=
  ∀ (c : Code) (ac : ACode) (hint : Hint) (N : Nat) (rf : Bool), trC P hint N rf c = some ac → ∀ (ρ : Rg) (H : AH) (Q : Post), Ev T n ac ρ H Q →
    ∀ (F : Nat → Option Obj) (ms : List Nat) (w0 : World) (ι : Inj) (w : World) (a : Act) (b : Frame) (k : List Item) (cs : List Frame) (it : Item),
      (rf = true → b.roundOf = none) → Opens it c → MOk F ms → a.defers = marks ms → Rel (CRl P) (Fx F ms) w0 ι H w → RRel ι N ρ a.tmps →
      CodeOut P F w0 ι N rf ms Q (lone (frOn b a (it :: k)) cs w) b k cs
def ScopeSim (P : Program) (T : FTab) (n : Nat) : Prop :=
  ∀ (c cur : Code) (ac acur : ACode) (hint : Hint) (N : Nat) (rf : Bool), trC P hint N rf c = some ac → trC P hint N rf cur = some acur → ∀ (ρ : Rg) (H : AH) (Q : Post), Ev T n (.scope ac acur) ρ H Q →
    ∀ (F : Nat → Option Obj) (ms : List Nat) (w0 : World) (ι : Inj) (w : World) (a : Act) (b : Frame) (k : List Item) (cs : List Frame),
      (rf = true → b.roundOf = none) → MOk F ms → a.defers = marks ms → Rel (CRl P) (Fx F ms) w0 ι H w → RRel ι N ρ a.tmps →
      CodeOut P F w0 ι N rf ms Q (lone (frOn b a (.code cur :: .inScope c :: k)) cs w) b k cs

/-- What a call of a function comes to. -/
def CallOut (P : Program) (F : Nat → Option Obj) (w0 : World) (ι : Inj) (Q Pn : AVal → AH → Prop) (f : Nat) (args : Array Value) (w : World) : Prop :=
  (∃ v v' H' ι' w', Q v H' ∧ ι.le ι' ∧ Rel (CRl P) F w0 ι' H' w' ∧ VRel ι' v v' ∧ (callFunc f args).run P w = .ok (.value v') w') ∨
  ((callFunc f args).run P w = .ok (.enter f args) w ∧ Calls P f args w fun e w' =>
    (∃ v v' H' ι', e = .returned v' ∧ Q v H' ∧ ι.le ι' ∧ Rel (CRl P) F w0 ι' H' w' ∧ VRel ι' v v') ∨
    (∃ v v' H' ι', e = .panicked [{ v := v', recovered := false }] ∧ Pn v H' ∧ ι.le ι' ∧ Rel (CRl P) F w0 ι' H' w' ∧ VRel ι' v v'))
def ExtOk (P : Program) (f : Nat) (g : List AVal → AH → Option (AVal × AH)) : Prop :=
  ∀ args H v H1, g args H = some (v, H1) → ∀ (F : Nat → Option Obj) (w0 : World) (ι : Inj) (w : World) (args' : List Value), VsRel ι args args' → Rel (CRl P) F w0 ι H w → CallOut P F w0 ι (fun u H2 => u = v ∧ H2 = H1) (fun _ _ => False) f args'.toArray w
def FnOk (P : Program) (f : Nat) (af : AFunc) : Prop :=
  ∃ fn c hint, P.funcs[f]? = some fn ∧ (fn.name == "runtime.NumGoroutine") = false ∧ fn.body = some c ∧ trC P hint fn.ntmps true c = some af.body ∧ af.ntmps = fn.ntmps ∧ optMap (trRes P) fn.results.toList = some af.results
def TOk (P : Program) (T : FTab) : Prop := ∀ f, match T f with
  | some (.fn af) => FnOk P f af
  | some (.ext g) => ExtOk P f g
  | none => True
def FuncSim (P : Program) (T : FTab) (n : Nat) : Prop :=
  ∀ (f : Nat) (args : List AVal) (H : AH) (Q Pn : AVal → AH → Prop), EvCall T (Ev T n) (.func f) args H Q Pn → ∀ (F : Nat → Option Obj) (w0 : World) (ι : Inj) (w : World) (args' : List Value), VsRel ι args args' → Rel (CRl P) F w0 ι H w →
    CallOut P F w0 ι Q Pn f args'.toArray w

theorem run_callFunc {P : Program} {f : Nat} {fn : Func} {c : Code} (hf : P.funcs[f]? = some fn) (hn : (fn.name == "runtime.NumGoroutine") = false) (hb : fn.body = some c) (args : Array Value) (w : World) : (callFunc f args).run P w = .ok (.enter f args) w := by
  unfold callFunc
  simp [hf, hb]
  intro e
  rw [e] at hn
  simp at hn

def rdRes (tmps : Array Value) : ResultVar → Sem Value
  | .tmp t => pure (tmps.getD t undef)
  | .cell a t => do loadVar t (← asAddr (tmps.getD a undef))
theorem results_eq (fn : Func) (tmps : Array Value) : results fn tmps = (do let vs ← fn.results.mapM (rdRes tmps); pure (if h : vs.size = 1 then vs[0] else .tuple vs)) := by
  unfold results
  congr 2
theorem results_rel {P : Program} {CR : CodeRel} {F : Nat → Option Obj} {w0 : World} {ι : Inj} {H : AH} {w : World} (R : Rel CR F w0 ι H w) {N : Nat} {ρ : Rg} {tmps : Array Value} (RR : RRel ι N ρ tmps) {fn : Func} {rs : List ARes} (hrs : optMap (trRes P) fn.results.toList = some rs) {v : AVal}
    (h : resVal H ρ rs = some v) : ∃ v', (results fn tmps).run P w = .ok v' w ∧ VRel ι v v' := by
  have key : ∀ (l : List ResultVar) (rs : List ARes), optMap (trRes P) l = some rs → ∀ vs, resAll H ρ rs = some vs →
      ∃ vs', (l.mapM (rdRes tmps)).run P w = .ok vs' w ∧ VsRel ι vs vs' := by
    intro l
    induction l with
    | nil =>
      intro rs hrs vs hvs
      simp only [optMap, Option.some.injEq] at hrs
      subst hrs
      simp only [resAll, Option.some.injEq] at hvs
      subst hvs
      exact ⟨[], by simp, .nil⟩
    | cons r l ih =>
      intro rs hrs vs hvs
      unfold optMap at hrs
      split at hrs <;> try (cases hrs; done)
      rename_i ar ars h1 h2
      injection hrs with hrs
      subst hrs
      unfold resAll at hvs
      split at hvs <;> try (cases hvs; done)
      rename_i u us h3 h4
      injection hvs with hvs
      subst hvs
      obtain ⟨us', h5, h6⟩ := ih ars h2 us h4
      have hone : ∃ u', (rdRes tmps r).run P w = .ok u' w ∧ VRel ι u u' := by
        cases r with
        | tmp t =>
          simp only [trRes, Option.some.injEq] at h1
          subst h1
          simp only [resOf, Option.some.injEq] at h3
          subst h3
          exact ⟨_, rfl, at_rel RR t⟩
        | cell a t =>
          simp only [trRes] at h1
          split at h1 <;> try (cases h1; done)
          rename_i n hn
          injection h1 with h1
          subst h1
          have hat := at_rel RR a
          show ∃ u', (do loadVar t (← asAddr (tmps.getD a undef)) : Sem Value).run P w = .ok u' w ∧ VRel ι u u'
          have hload : ∀ b i g o N', ι b = some (g, o, N') → tmps.getD a undef = .pointer (some ⟨g, o + i, none⟩) → loadAny H (b, i) n = some u →
              ∃ u', (do loadVar t (← asAddr (tmps.getD a undef)) : Sem Value).run P w = .ok u' w ∧ VRel ι u u' := by
            intro b i g o N' hb hX hl
            obtain ⟨u', e1, e2⟩ := run_loadVar R hn hb hl
            refine ⟨u', ?_, e2⟩
            rw [hX]
            simp [asAddr, e1]
          generalize hX : tmps.getD a undef = X at hat hload ⊢
          cases n with
          | none =>
            simp only [resOf] at h3
            split at h3 <;> try (cases h3; done)
            rename_i p hp
            rw [hp] at hat
            cases hat
            rename_i b i g o N' hb
            exact hload b i g o N' hb rfl h3
          | some n =>
            simp only [resOf] at h3
            split at h3 <;> try (cases h3; done)
            rename_i p hp
            rw [hp] at hat
            cases hat
            rename_i b i g o N' hb
            refine hload b i g o N' hb rfl ?_
            simpa [loadAny] using h3
      obtain ⟨u', h7, h8⟩ := hone
      refine ⟨u' :: us', ?_, .cons _ _ _ _ h8 h6⟩
      simp only [List.mapM_cons, Sem.run_bind, h7, Result.andThen_ok, h5]
      rfl
  unfold resVal at h
  have hvs : ∃ vs, resAll H ρ rs = some vs ∧ ((∃ u, vs = [u] ∧ v = u) ∨ (vs.length ≠ 1 ∧ v = .tup vs)) := by
    split at h
    · rename_i u hu
      injection h with h
      exact ⟨[u], hu, .inl ⟨u, rfl, h.symm⟩⟩
    · rename_i vs hn hvs
      injection h with h
      refine ⟨vs, hvs, .inr ⟨fun e => ?_, h.symm⟩⟩
      obtain ⟨u, rfl⟩ := List.length_eq_one_iff.1 e
      exact hn u rfl
    · cases h
  obtain ⟨vs, h1, h2⟩ := hvs
  obtain ⟨vs', h3, h4⟩ := key _ _ hrs vs h1
  have hmap : (fn.results.mapM (rdRes tmps)).run P w = .ok vs'.toArray w := by
    rw [Array.mapM_eq_mapM_toList]
    simp only [Sem.run_map, h3]
    rfl
  have hlen := h4.length
  rw [results_eq]
  simp only [Sem.run_bind]
  refine ⟨if h : vs'.toArray.size = 1 then vs'.toArray[0] else .tuple vs'.toArray, ?_, ?_⟩
  · have := hmap
    rw [this]
    rfl
  · rcases h2 with ⟨u, rfl, rfl⟩ | ⟨hne, rfl⟩
    · cases h4 with
      | cons _ v' _ vs' h5 h6 =>
        cases h6
        exact h5
    · rw [dif_neg (by simpa [← hlen] using hne)]
      exact .tup _ _ h4
end Rst
/- What calls, rounds and operations come to, over what code comes to. -/
set_option linter.unusedVariables false
set_option linter.unusedSimpArgs false
namespace Rst
open Go

theorem VsRel.toArray_append {a b : List Value} : (a ++ b).toArray = a.toArray ++ b.toArray := by simp

theorem entry_get : ∀ (vs : List AVal) (ρ : Rg) (i t : Nat), (entry ρ i vs).get t = if i ≤ t ∧ t < i + vs.length then vs[t - i]? else ρ.get t := by
  intro vs
  induction vs with
  | nil => intro ρ i t; simp [entry]; intro h1 h2; omega
  | cons v vs ih =>
    intro ρ i t
    simp only [entry]
    rw [ih, Tr.get_set]
    simp only [List.length_cons]
    by_cases h : t = i
    · subst h
      rw [if_neg (by omega), if_pos rfl, if_pos (by omega)]
      simp
    · rw [if_neg h]
      by_cases h2 : i + 1 ≤ t ∧ t < i + 1 + vs.length
      · rw [if_pos h2, if_pos (by omega)]
        rw [show t - i = (t - (i + 1)) + 1 from by omega]
        simp
      · rw [if_neg h2, if_neg (by omega)]
theorem entry_rel {ι : Inj} {args : List AVal} {args' : List Value} (h : VsRel ι args args') {n : Nat} (hn : args.length ≤ n) : RRel ι n (entry .e 0 args) (args'.toArray ++ Array.replicate (n - args'.toArray.size) undef) := by
  have hlen := h.length
  refine ⟨by simp; omega, fun t v hv => ?_⟩
  rw [entry_get] at hv
  split at hv
  · rename_i ht
    simp only [Nat.sub_zero] at hv
    obtain ⟨v', h1, h2⟩ := h.get t v hv
    have : t < args'.length := by omega
    rw [Array.getD_eq_getD_getElem?, Array.getElem?_append_left (by simpa using this)]
    simp [h1, h2]
  · simp [Tr.get] at hv
theorem setAll_rel {ι : Inj} {N : Nat} : ∀ (ps : List Nat) (vs : List AVal) (vs' : List Value) (ρ : Rg) (tmps : Array Value), VsRel ι vs vs' → vs.length = ps.length → (∀ p ∈ ps, p < N) → RRel ι N ρ tmps →
    RRel ι N (setAll ρ ps vs) ((ps.zip vs').foldl (fun tmps (p : Nat × Value) => tmps.setIfInBounds p.1 p.2) tmps)
  | [], _, _, ρ, tmps, .nil, _, _, R => by simpa [setAll] using R
  | [], _, _, ρ, tmps, .cons _ _ _ _ _ _, hl, _, R => by simp at hl
  | p :: ps, _, _, ρ, tmps, .nil, hl, _, R => by simp at hl
  | p :: ps, _, _, ρ, tmps, .cons v v' vs vs' hv hvs, hl, hp, R => by
    simp only [setAll, List.zip_cons_cons, List.foldl_cons]
    refine setAll_rel ps vs vs' (ρ.set p v) _ hvs (by simpa using hl) (fun q hq => hp q (by simp [hq])) ?_
    have := R.put (a := ⟨tmps, []⟩) (d := some p) (by simp [okDst, hp p (by simp)]) hv
    exact this

section
variable {P : Program} {T : FTab}

theorem CallOut.mono {F : Nat → Option Obj} {w0 : World} {ι : Inj} {Q Q' Pn Pn' : AVal → AH → Prop} {f : Nat} {args : Array Value} {w : World} (h : CallOut P F w0 ι Q Pn f args w) (hq : ∀ v H, Q v H → Q' v H) (hp : ∀ v H, Pn v H → Pn' v H) : CallOut P F w0 ι Q' Pn' f args w := by
  rcases h with ⟨v, v', H', ι', w', h1, h2⟩ | ⟨h1, h2⟩
  · exact .inl ⟨v, v', H', ι', w', hq _ _ h1, h2⟩
  · refine .inr ⟨h1, h2.mono fun e w' h => ?_⟩
    rcases h with ⟨v, v', H', ι', e1, e2, e3⟩ | ⟨v, v', H', ι', e1, e2, e3⟩
    · exact .inl ⟨v, v', H', ι', e1, hq _ _ e2, e3⟩
    · exact .inr ⟨v, v', H', ι', e1, hp _ _ e2, e3⟩

theorem fnSim_of {n : Nat} (hc : CodeSim P T n) {f : Nat} {af : AFunc} (hok : FnOk P f af) {args : List AVal} {H : AH} {Q Pn : AVal → AH → Prop} (hlen : Nat.ble args.length af.ntmps = true)
    (hE : Ev T n af.body (entry .e 0 args) H fun e ρ H' => match e with
      | .nrm => (match resVal H' ρ af.results with
        | some v => Q v H'
        | none => False)
      | .ret => (match resVal H' ρ af.results with
        | some v => Q v H'
        | none => False)
      | .pan v => Pn v H'
      | _ => False) (F : Nat → Option Obj) (w0 : World) (ι : Inj) (w : World) (args' : List Value) (hargs : VsRel ι args args') (R : Rel (CRl P) F w0 ι H w) :
    CallOut P F w0 ι Q Pn f args'.toArray w := by
  obtain ⟨fn, c, hint, hf, hname, hb, htr, hnt, hres⟩ := hok
  have hlen := Nat.le_of_ble_eq_true hlen
  rw [hnt] at hlen
  refine .inr ⟨run_callFunc hf hname hb _ _, fun cs => ?_⟩
  let b : Frame := { (default : Frame) with fn := f, kind := .normal }
  have henter : Frame.enter P f args'.toArray .normal = frOn b ⟨args'.toArray ++ Array.replicate (fn.ntmps - args'.toArray.size) undef, []⟩ [.code c] := by
    simp [Frame.enter, frOn, hf, hb, b]
    rfl
  obtain ⟨e, ρ', H', ι', w', ms', hq, hι, hm, _, R', harr⟩ := hc c af.body hint fn.ntmps true htr _ H _ hE F [] w0 ι w ⟨args'.toArray ++ Array.replicate (fn.ntmps - args'.toArray.size) undef, []⟩ b [] cs (.code c)
    (fun _ => rfl) (.inl rfl) ⟨List.nodup_nil, by simp⟩ rfl (by rw [Fx_nil]; exact R) (entry_rel hargs hlen)
  rw [← henter] at harr
  have ret : ∀ (a : Act) (todo : List Item), a.defers = marks ms' → RRel ι' fn.ntmps ρ' a.tmps → Steps P (lone (Frame.enter P f args'.toArray .normal) cs w) (lone { frOn b a todo with mode := .returning } cs w') → (match resVal H' ρ' af.results with | some v => Q v H' | none => False) →
      ∃ e w' fr, ((∃ v v' H' ι', e = Ending.returned v' ∧ Q v H' ∧ ι.le ι' ∧ Rel (CRl P) F w0 ι' H' w' ∧ VRel ι' v v') ∨ (∃ v v' H' ι', e = Ending.panicked [{ v := v', recovered := false }] ∧ Pn v H' ∧ ι.le ι' ∧ Rel (CRl P) F w0 ι' H' w' ∧ VRel ι' v v')) ∧
        Go.Comes P (lone (Frame.enter P f args'.toArray .normal) cs w) (lone fr cs w') e ∧ fr.fn = f ∧ fr.leaving P w' e := by
    intro a todo hd RR hs hv
    split at hv <;> try (exact hv.elim)
    rename_i v hres'
    obtain ⟨w2, R2, hs2⟩ := unwind_marks (cs := cs) ms' w' hm R' { frOn b a todo with mode := .returning } hd (.inr rfl)
    obtain ⟨v', hv1, hv2⟩ := results_rel R2 RR hres hres'
    refine ⟨.returned v', w2, _, .inl ⟨v, v', H', ι', rfl, hv, hι, R2, hv2⟩, hs.trans hs2, rfl, rfl, rfl, rfl, fn, hf, hv1⟩
  cases e with
  | nrm =>
    obtain ⟨a, h1, h2, h3⟩ := harr
    exact ret a [] h1 h2 (h3.trans (.one (st_end rfl))) hq
  | ret =>
    obtain ⟨a, k', h1, h2, h3⟩ := harr
    exact ret a _ h1 h2 (h3.trans (.one (st_ret rfl))) hq
  | exit id => exact hq.elim
  | goto l => exact hq.elim
  | pan v =>
    obtain ⟨v', fr, h1, ⟨a, todo, hd, hcall, rfl⟩, h3⟩ := harr
    obtain ⟨w2, R2, hs2⟩ := unwind_marks (cs := cs) ms' w' hm R' { frOn b a todo with mode := .panicking [{ v := v', recovered := false }] } hd (.inl ⟨_, rfl⟩)
    exact ⟨.panicked [{ v := v', recovered := false }], w2, _, .inr ⟨v, v', H', ι', rfl, hq, hι, R2, h1⟩, h3.trans hs2, rfl, rfl, rfl, fn, hf⟩

theorem funcSim_of (hT : TOk P T) {n : Nat} (hc : CodeSim P T n) : FuncSim P T n := by
  intro f args H Q Pn hE F w0 ι w args' hargs R
  unfold EvCall at hE
  dsimp only at hE
  have hTf := hT f
  split at hE
  · rename_i g hg
    rw [hg] at hTf
    split at hE
    · rename_i v H1 he
      exact (hTf args H v H1 he F w0 ι w args' hargs R).mono (fun _ _ h => by rw [h.1, h.2]; exact hE) (fun _ _ h => h.elim)
    · exact hE.elim
  · rename_i af hg
    rw [hg] at hTf
    split at hE
    · rename_i hlen
      exact fnSim_of hc hTf hlen hE F w0 ι w args' hargs R
    · exact hE.elim
  · exact hE.elim

/-! ### Rounds -/
theorem Rel.loopAt {CR : CodeRel} {F : Nat → Option Obj} {w0 : World} {ι : Inj} {H : AH} {w : World} (R : Rel CR F w0 ι H w) {l : Nat} {st : LState} {pd : Option ACode} {ρ : Rg} {ps : List Nat} {x y : ACode} (hg : H.get l = some (.loop st pd ρ ps x y)) :
    ∃ g L, ι l = some (g, 0, 0) ∧ w.heap[g]? = some (.loop L) ∧ LRel CR ι st pd ρ ps x y L := by
  obtain ⟨g, off, N, o, h1, h2, h3⟩ := R.blk l _ hg rfl
  cases h3 with
  | loop _ _ _ _ _ _ L hl => exact ⟨g, L, h1, h2, hl⟩
theorem Rel.putLoop {CR : CodeRel} {F : Nat → Option Obj} {w0 : World} {ι : Inj} {H : AH} {w : World} (R : Rel CR F w0 ι H w) {l g : Nat} {st st2 : LState} {pd pd2 : Option ACode} {ρ : Rg} {ps : List Nat} {x y : ACode} {L L2 : Loop} (hg : H.get l = some (.loop st pd ρ ps x y)) (hi : ι l = some (g, 0, 0))
    (hL : w.heap[g]? = some (.loop L)) (h : LRel CR ι st2 pd2 ρ ps x y L2) : Rel CR F w0 ι (H.set l (.loop st2 pd2 ρ ps x y)) { w with heap := w.heap.set! g (.loop L2) } := by
  refine R.put (x := .loop L2) hg rfl hi ⟨rfl, rfl, rfl, by simp, fun r hr => ?_⟩ ?_ (fun _ => .loop _ _ _ _ _ _ L2 h) (fun _ => rfl)
  · simp [Array.getElem?_setIfInBounds, Ne.symm hr]
  · simp [heap_lt hL]
theorem run_setLoop {w : World} {g : Nat} {L : Loop} (o : Obj) (h : w.heap[g]? = some (.loop L)) : (setObj g o).run P w = .ok () { w with heap := w.heap.set! g o } := by
  simp [setObj, Sem.run, h]
theorem run_getLoop {w : World} {g : Nat} {L : Loop} (h : w.heap[g]? = some (.loop L)) : (Instr.getLoop g).run P w = .ok L w := by
  simp [Instr.getLoop, getObj, Sem.run, h]

section
variable {b : Frame} {a : Act} {k : List Item} {c : Frame} {cs : List Frame} {w : World} {g : Nat} {L : Loop}
theorem st_beginRound (hr : b.roundOf = some g) (hL : w.heap[g]? = some (.loop L)) (hs : L.state = .ready) :
    step P (lone (frOn b a (.beginRound :: k)) cs w) = .next (lone (frOn b a k) cs { w with heap := w.heap.set! g (.loop { L with state := .busy }) }) := by
  have hrun : (Instr.beginRound g).run P w = .ok () { w with heap := w.heap.set! g (.loop { L with state := .busy }) } := by
    unfold Instr.beginRound
    simp only [Sem.run_bind, run_getLoop hL, Result.andThen_ok, run_setLoop _ hL, hs]
    rfl
  refine step_lone_go ?_
  simp [stepG, stepG.exec, frOn, hr, stepG.apply, hrun, Frame.finish]
theorem run_endRound (hL : w.heap[g]? = some (.loop L)) (j : Option Code) :
    (Instr.endRound g j).run P w = .ok (.bool j.isNone) { w with heap := w.heap.set! g (.loop { L with state := if j.isNone then .ready else .done, pending := j }) } := by
  unfold Instr.endRound
  simp only [Sem.run_bind, run_getLoop hL, Result.andThen_ok, run_setLoop _ hL]
  rfl
theorem st_leave_end (hr : b.roundOf = some g) (hk : b.kind = .normal) (hL : w.heap[g]? = some (.loop L)) :
    step P (lone (frOn b a []) (c :: cs) w) = .next (lone (c.finish (.bool true)) cs { w with heap := w.heap.set! g (.loop { L with state := .ready, pending := none }) }) := by
  refine step_lone_go ?_
  have := run_endRound (P := P) hL none
  simp only [Option.isNone_none, if_true] at this
  simp [stepG, stepG.exec, frOn, hr, this, doReturn, hk]
theorem st_leave_ret (hr : b.roundOf = some g) (hk : b.kind = .normal) (hL : w.heap[g]? = some (.loop L)) :
    step P (lone (frOn b a (.code .ret :: k)) (c :: cs) w) = .next (lone (c.finish (.bool false)) cs { w with heap := w.heap.set! g (.loop { L with state := .done, pending := some .ret }) }) := by
  refine step_lone_go ?_
  have := run_endRound (P := P) hL (some .ret)
  simp only [Option.isNone_some, Bool.false_eq_true, if_false] at this
  simp [stepG, stepG.exec, frOn, hr, this, doReturn, hk]
theorem st_leave_exit {id : Nat} (hr : b.roundOf = some g) (hk : b.kind = .normal) (hL : w.heap[g]? = some (.loop L)) (hx : exitTo id k = none) :
    step P (lone (frOn b a (.code (.exit id) :: k)) (c :: cs) w) = .next (lone (c.finish (.bool false)) cs { w with heap := w.heap.set! g (.loop { L with state := .done, pending := some (.exit id) }) }) := by
  refine step_lone_go ?_
  have := run_endRound (P := P) hL (some (.exit id))
  simp only [Option.isNone_some, Bool.false_eq_true, if_false] at this
  simp [stepG, stepG.exec, frOn, hr, this, doReturn, hk, hx]
theorem st_leave_goto {l : Nat} (hr : b.roundOf = some g) (hk : b.kind = .normal) (hL : w.heap[g]? = some (.loop L)) (hx : gotoIn l k = none) :
    step P (lone (frOn b a (.code (.goto l) :: k)) (c :: cs) w) = .next (lone (c.finish (.bool false)) cs { w with heap := w.heap.set! g (.loop { L with state := .done, pending := some (.goto l) }) }) := by
  refine step_lone_go ?_
  have := run_endRound (P := P) hL (some (.goto l))
  simp only [Option.isNone_some, Bool.false_eq_true, if_false] at this
  simp [stepG, stepG.exec, frOn, hr, this, doReturn, hk, hx]
theorem st_panic_out {fr : Frame} {v' : Value} (h : PanFr b [] v' fr) : step P (lone fr (c :: cs) w) = .next (lone (c.raise [{ v := v', recovered := false }]) cs w) := by
  obtain ⟨a, todo, hd, hcall, rfl⟩ := h
  refine step_lone_go ?_
  have hcat : Frame.catches P { frOn b a todo with mode := .panicking [{ v := v', recovered := false }] } = false := by
    unfold Frame.catches
    split
    · rename_i d x r s k h1 h2
      exact absurd h2 (hcall d x r s k)
    · rfl
  simp only [frOn, hd] at hcat ⊢
  simp [stepG, unwind, hcat]
end

theorem round_sim {n : Nat} (hc : CodeSim P T n) {l : Nat} {args : List AVal} {H : AH} {Q Pn : AVal → AH → Prop} (hE : EvCall T (Ev T n) (.yield l) args H Q Pn) {F : Nat → Option Obj} {w0 : World} {ι : Inj} {w : World} {args' : List Value} (hargs : VsRel ι args args') (R : Rel (CRl P) F w0 ι H w) :
    ∃ g L, ι l = some (g, 0, 0) ∧ w.heap[g]? = some (.loop L) ∧ args'.length = L.params.size ∧ ∀ (c : Frame) (cs : List Frame),
      let m := lone (Frame.round g L.fn ((L.params.toList.zip args').foldl (fun tmps (p : Nat × Value) => tmps.setIfInBounds p.1 p.2) L.tmps) L.assign L.body .normal) (c :: cs) w
      (∃ v v' H' ι' w', Q v H' ∧ ι.le ι' ∧ Rel (CRl P) F w0 ι' H' w' ∧ VRel ι' v v' ∧ Steps P m (lone (c.finish v') cs w')) ∨
      (∃ v v' H' ι' w', Pn v H' ∧ ι.le ι' ∧ Rel (CRl P) F w0 ι' H' w' ∧ VRel ι' v v' ∧ Steps P m (lone (c.raise [{ v := v', recovered := false }]) cs w')) := by
  unfold EvCall at hE
  dsimp only at hE
  split at hE <;> try (exact hE.elim)
  rename_i pd ρ0 ps asg body hg
  split at hE <;> try (exact hE.elim)
  rename_i hlen
  obtain ⟨g, L, hi, hL, hl⟩ := R.loopAt hg
  have hpl : ps.length = L.params.size := by rw [← hl.params]; simp
  refine ⟨g, L, hi, hL, by rw [← hargs.length, hlen, hpl], fun c cs => ?_⟩
  dsimp only
  generalize htm : (L.params.toList.zip args').foldl (fun tmps (p : Nat × Value) => tmps.setIfInBounds p.1 p.2) L.tmps = tm
  have RR : RRel ι L.tmps.size (setAll ρ0 ps args) tm := by
    rw [← htm, hl.params]
    exact setAll_rel ps args args' ρ0 L.tmps hargs hlen hl.bound hl.regs
  obtain ⟨h1, hass⟩ := hl.assign
  obtain ⟨h2, hbody⟩ := hl.body
  let b : Frame := { (default : Frame) with fn := L.fn, kind := .normal, roundOf := some g }
  have hround : Frame.round g L.fn tm L.assign L.body .normal = frOn b ⟨tm, []⟩ [.code L.assign, .beginRound, .code L.body] := rfl
  rw [hround]
  obtain ⟨e1, ρ1, H1, ι1, w1, ms1, hq1, hι1, hm1, hms1, R1, harr1⟩ := hc L.assign asg h1 L.tmps.size false hass _ H _ hE F [] w0 ι w ⟨tm, []⟩ b [.beginRound, .code L.body] (c :: cs) (.code L.assign) (fun h => by cases h) (.inl rfl) ⟨List.nodup_nil, by simp⟩ rfl
    (by rw [Fx_nil]; exact R) RR
  have hms1 := hms1 rfl
  subst hms1
  rw [Fx_nil] at R1
  split at hq1 <;> try (exact hq1.elim)
  rename_i p1 ρ1' ps1 a1 b1 hg1
  obtain ⟨at1, hd1, RR1, hs1⟩ := harr1
  obtain ⟨g1, L1, hi1, hL1, hl1⟩ := R1.loopAt hg1
  have hgg : g1 = g := by
    have := hι1 l _ hi
    rw [this] at hi1
    injection hi1 with hi1
    injection hi1 with hi1 _
    exact hi1.symm
  subst hgg
  have hst1 : L1.state = .ready := by have := hl1.state; cases h : L1.state <;> rw [h] at this <;> first | rfl | cases this
  have hb2 := st_beginRound (P := P) (b := b) (a := at1) (k := [.code L.body]) (cs := c :: cs) rfl hL1 hst1
  have R2 := R1.putLoop (st2 := .busy) (pd2 := p1) (L2 := { L1 with state := .busy }) hg1 hi1 hL1 ⟨.busy, hl1.pend, hl1.regs, hl1.params, hl1.bound, hl1.assign, hl1.body⟩
  obtain ⟨e3, ρ3, H3, ι3, w3, ms3, hq3, hι3, hm3, hms3, R3, harr3⟩ := hc L.body body h2 L.tmps.size false hbody ρ1 _ _ hq1 F [] w0 ι1 _ at1 b [] (c :: cs) (.code L.body) (fun h => by cases h) (.inl rfl) ⟨List.nodup_nil, by simp⟩ hd1
    (by rw [Fx_nil]; exact R2) RR1
  have hms3 := hms3 rfl
  subst hms3
  rw [Fx_nil] at R3
  have hs2 : Steps P (lone (frOn b ⟨tm, []⟩ [.code L.assign, .beginRound, .code L.body]) (c :: cs) w) (lone (frOn b at1 [.code L.body]) (c :: cs) { w1 with heap := w1.heap.set! g1 (.loop { L1 with state := .busy }) }) := hs1.trans (.one hb2)
  have fin : ∀ (v' : Bool) (st : LState) (pd' : Option ACode) (ρ2' : Rg) (ps2 : List Nat) (a2 b2 : ACode), H3.get l = some (.loop .busy pd' ρ2' ps2 a2 b2) → ∃ L3, ι3 l = some (g1, 0, 0) ∧ w3.heap[g1]? = some (.loop L3) ∧ LRel (CRl P) ι3 .busy pd' ρ2' ps2 a2 b2 L3 := by
    intro v' st pd' ρ2' ps2 a2 b2 h
    obtain ⟨g3, L3, hi3, hL3, hl3⟩ := R3.loopAt h
    have := (hι1.trans hι3) l _ hi
    rw [this] at hi3
    injection hi3 with hi3
    injection hi3 with hi3 _
    subst hi3
    exact ⟨L3, this, hL3, hl3⟩
  cases e3 with
  | pan v =>
    obtain ⟨v', fr, q1, q2, q3⟩ := harr3
    exact .inr ⟨v, v', H3, ι3, w3, hq3, hι1.trans hι3, R3, q1, (hs2.trans q3).trans (.one (st_panic_out q2))⟩
  | nrm =>
    split at hq3 <;> try (exact hq3.elim)
    · contradiction
    rename_i pd2 ρ2' ps2 a2 b2 hg3 _
    obtain ⟨L3, hi3, hL3, hl3⟩ := fin true .ready _ _ _ _ _ hg3
    obtain ⟨at3, _, _, hs3⟩ := harr3
    simp only [jumpOf] at hq3
    exact .inl ⟨.bool true, .bool true, _, ι3, _, hq3, hι1.trans hι3, R3.putLoop (st2 := .ready) (pd2 := none) (L2 := { L3 with state := .ready, pending := none }) hg3 hi3 hL3 ⟨.ready, trivial, hl3.regs, hl3.params, hl3.bound, hl3.assign, hl3.body⟩, .bool _,
      (hs2.trans hs3).trans (.one (st_leave_end rfl rfl hL3))⟩
  | ret =>
    split at hq3 <;> try (exact hq3.elim)
    · contradiction
    rename_i pd2 ρ2' ps2 a2 b2 hg3 _
    obtain ⟨L3, hi3, hL3, hl3⟩ := fin true .ready _ _ _ _ _ hg3
    obtain ⟨at3, k3, _, _, hs3⟩ := harr3
    simp only [jumpOf] at hq3
    exact .inl ⟨.bool false, .bool false, _, ι3, _, hq3, hι1.trans hι3, R3.putLoop (st2 := .done) (pd2 := some .ret) (L2 := { L3 with state := .done, pending := some .ret }) hg3 hi3 hL3 ⟨.done, ⟨fun _ => [], rfl⟩, hl3.regs, hl3.params, hl3.bound, hl3.assign, hl3.body⟩, .bool _,
      (hs2.trans hs3).trans (.one (st_leave_ret rfl rfl hL3))⟩
  | exit id =>
    split at hq3 <;> try (exact hq3.elim)
    · contradiction
    rename_i pd2 ρ2' ps2 a2 b2 hg3 _
    obtain ⟨L3, hi3, hL3, hl3⟩ := fin true .ready _ _ _ _ _ hg3
    obtain ⟨at3, k3, _, _, hx, hs3⟩ := harr3
    simp only [jumpOf] at hq3
    exact .inl ⟨.bool false, .bool false, _, ι3, _, hq3, hι1.trans hι3, R3.putLoop (st2 := .done) (pd2 := some (.exit id)) (L2 := { L3 with state := .done, pending := some (.exit id) }) hg3 hi3 hL3 ⟨.done, ⟨fun _ => [], rfl⟩, hl3.regs, hl3.params, hl3.bound, hl3.assign, hl3.body⟩, .bool _,
      (hs2.trans hs3).trans (.one (st_leave_exit rfl rfl hL3 (by rw [hx]; rfl)))⟩
  | goto l' =>
    split at hq3 <;> try (exact hq3.elim)
    · contradiction
    rename_i pd2 ρ2' ps2 a2 b2 hg3 _
    obtain ⟨L3, hi3, hL3, hl3⟩ := fin true .ready _ _ _ _ _ hg3
    obtain ⟨at3, k3, _, _, hx, hs3⟩ := harr3
    simp only [jumpOf] at hq3
    exact .inl ⟨.bool false, .bool false, _, ι3, _, hq3, hι1.trans hι3, R3.putLoop (st2 := .done) (pd2 := some (.goto l')) (L2 := { L3 with state := .done, pending := some (.goto l') }) hg3 hi3 hL3 ⟨.done, ⟨fun _ => [], rfl⟩, hl3.regs, hl3.params, hl3.bound, hl3.assign, hl3.body⟩, .bool _,
      (hs2.trans hs3).trans (.one (st_leave_goto rfl rfl hL3 (by rw [hx]; rfl)))⟩
end
end Rst
/- What code comes to in the abstract machine is what the model's machine comes to: the induction. -/
set_option linter.unusedVariables false
set_option linter.unusedSimpArgs false
namespace Rst
open Go

theorem trOp_call {P : Program} {o : Op} {f : AO} {args : List AO} (h : trOp P o = some (.call f args)) : ∃ c fo, o = .call c ∧ c.callee = .value fo ∧ trO fo = some f ∧ optMap trO c.args.toList = some args := by
  cases o <;> unfold trOp at h <;> (try dsimp only at h)
  case call c =>
    unfold trCall at h
    split at h
    · rename_i fo hc
      split at h <;> try (cases h; done)
      rename_i h1 h2
      injection h with h
      injection h with e1 e2
      subst e1 e2
      exact ⟨c, fo, rfl, hc, h1, h2⟩
    all_goals (repeat' split at h) <;> first | (cases h; done) | (unfold trLen at h; (repeat' split at h) <;> first | (cases h; done) | (injection h with h; cases h; done)) | (unfold trApp at h; (repeat' split at h) <;> first | (cases h; done) | (injection h with h; cases h; done)) | (injection h with h; cases h; done)
  case binOp => unfold trBin at h; (repeat' split at h) <;> first | (cases h; done) | (injection h with h; cases h; done)
  case makeFunc f x y => cases f <;> simp only [trMkF] at h <;> first | (cases h; done) | ((repeat' split at h) <;> first | (cases h; done) | (injection h with h; cases h; done))
  case makeMap r => cases r <;> simp [trMkM] at h
  all_goals first | (cases h; done) | ((repeat' split at h) <;> first | (cases h; done) | (injection h with h; cases h; done))
theorem trOp_panic {P : Program} {o : Op} {x : AO} (h : trOp P o = some (.panic x)) : ∃ xo, o = .panic xo ∧ trO xo = some x := by
  cases o <;> unfold trOp at h <;> (try dsimp only at h)
  case panic xo =>
    split at h <;> try (cases h; done)
    rename_i h1
    injection h with h
    injection h with h
    subst h
    exact ⟨xo, rfl, h1⟩
  case call c =>
    unfold trCall at h
    (repeat' split at h) <;> first | (cases h; done) | (unfold trLen at h; (repeat' split at h) <;> first | (cases h; done) | (injection h with h; cases h; done)) | (unfold trApp at h; (repeat' split at h) <;> first | (cases h; done) | (injection h with h; cases h; done)) | (injection h with h; cases h; done)
  case binOp => unfold trBin at h; (repeat' split at h) <;> first | (cases h; done) | (injection h with h; cases h; done)
  case makeFunc f x y => cases f <;> simp only [trMkF] at h <;> first | (cases h; done) | ((repeat' split at h) <;> first | (cases h; done) | (injection h with h; cases h; done))
  case makeMap r => cases r <;> simp [trMkM] at h
  all_goals first | (cases h; done) | ((repeat' split at h) <;> first | (cases h; done) | (injection h with h; cases h; done))

section
variable {P : Program} {T : FTab}

theorem exec_call_func {w : World} {a : Act} {o : Oper} {c : Call} {fo : Operand} {g : Nat} {caps : List Value} (ho : o.op = .call c) (hc : c.callee = .value fo) (hv : a.eval fo = .func (.func g) #[] caps.toArray) :
    (execOp a.eval o).run P w = (callFunc g (c.args.toList.map a.eval ++ caps).toArray).run P w := by
  have e : (c.args.toList.map a.eval ++ caps).toArray = c.args.map a.eval ++ caps.toArray := by apply Array.ext'; simp
  rw [e]
  simp only [execOp, ho, resolve, hc, hv, Deferred.ofValue]
  simp [invoke]
theorem foldl_list {α β : Type} (f : β → α → β) (init : β) (zs : Array α) (n : Nat) (h : n = zs.size) : Array.foldl f init zs 0 n = zs.toList.foldl f init := by
  subst h
  exact (Array.foldl_toList f).symm
theorem exec_call_yield {w : World} {a : Act} {o : Oper} {c : Call} {fo : Operand} {g : Nat} (ho : o.op = .call c) (hc : c.callee = .value fo) (hv : a.eval fo = .func (.yield g) #[] #[]) {L : Loop} (hL : w.heap[g]? = some (.loop L)) (hsz : c.args.size = L.params.size) :
    (execOp a.eval o).run P w = .ok (.round g L.fn ((L.params.toList.zip (c.args.toList.map a.eval)).foldl (fun tmps (p : Nat × Value) => tmps.setIfInBounds p.1 p.2) L.tmps) L.assign L.body) w := by
  simp only [execOp, ho, resolve, hc, hv, Deferred.ofValue]
  simp [invoke, Instr.yield, run_getLoop hL, hsz]
  rw [foldl_list _ _ _ _ (by simp [hsz])]
  simp

theorem operSim_of (hT : TOk P T) {n : Nat} (hc : CodeSim P T n) : OperSim P (CRl P) (EvCall T (Ev T n)) := by
  intro N ρ H K Pn F w0 ι w b a k cs ops i rest o aop ho hw htr hE R RR
  have hd : ∀ c, o.op ≠ .defer c := by
    intro c e
    rw [e] at htr
    simp [trOp] at htr
  cases hcall : aop.isCall with
  | false =>
    have hag := trOp_again htr
    have hev : ∃ v H', evOp ρ H aop = some (v, H') ∧ K v H' := by
      have : EvV (EvCall T (Ev T n)) aop ρ H K Pn = (match evOp ρ H aop with | some (v, H') => K v H' | none => False) := by
        cases aop <;> first | rfl | (simp [AOp.isCall] at hcall; done) | (simp [AOp.isAgain] at hag; done)
      rw [this] at hE
      split at hE
      · rename_i v H' he; exact ⟨v, H', he, hE⟩
      · exact hE.elim
    obtain ⟨v, H', he, hK⟩ := hev
    obtain ⟨nx, v', w', ι', h1, h2, h3, h4, h5⟩ := trOp_ok htr hcall (CRl P) F w0 ι N ρ H w a v H' R RR he
    exact .inl ⟨v, v', H', ι', w', hK, h4, h5, h3, .one (st_op_value ho hw hd h1 h2)⟩
  | true =>
    cases aop <;> try (simp [AOp.isCall] at hcall; done)
    case call f args =>
      obtain ⟨c, fo, e1, e2, e3, e4⟩ := trOp_call htr
      have hf := trO_rel RR e3
      have hargs := trOs_rel RR e4
      simp only [EvV] at hE
      generalize hX : a.eval fo = X at hf
      split at hE
      · rename_i g caps hfe
        rw [hfe] at hf
        cases hf with
        | func _ _ _ caps' hfr hcs =>
        cases hfr
        have hrun := exec_call_func (P := P) (w := w) e1 e2 hX
        have hfin : ∀ v', (frOn b a (.inRegion ops (i :: rest) :: k)).finish v' = frOn b (a.put o.dst v') (.inRegion ops rest :: k) := by
          intro v'; rw [fr_finish, ho]; rfl
        rcases funcSim_of hT hc g _ H K Pn hE F w0 ι w _ (hargs.append hcs) R with ⟨v, v', H', ι', w', h1, h2, h3, h4, h5⟩ | ⟨h1, h2⟩
        · exact .inl ⟨v, v', H', ι', w', h1, h2, h3, h4, .one (st_op_value (rest := rest) ho hw hd (hrun.trans h5) (.inl rfl))⟩
        · obtain ⟨e, w', fr, h3, h4, h5, h6⟩ := h2 (frOn b a (.inRegion ops (i :: rest) :: k) :: cs)
          have hs := st_op_enter (P := P) (rest := rest) (k := k) (cs := cs) (b := b) ho hw hd (hrun.trans h1)
          rcases h3 with ⟨v, v', H', ι', rfl, q1, q2, q3, q4⟩ | ⟨v, v', H', ι', rfl, q1, q2, q3, q4⟩
          · refine .inl ⟨v, v', H', ι', w', q1, q2, q3, q4, .head hs (Steps.trans h4 (.one ?_))⟩
            show step P _ = .next (lone (frOn b (a.put o.dst v') (.inRegion ops rest :: k)) cs w')
            rw [← hfin]
            exact step_leave_returned h6
          · refine .inr ⟨v, v', H', ι', w', _, q1, q2, q3, q4, ⟨a, .inRegion ops (i :: rest) :: k, rfl, by simp, rfl⟩, .head hs (Steps.trans h4 (.one (step_leave_panicked h6)))⟩
      · rename_i l hfe
        rw [hfe] at hf
        cases hf with
        | func _ _ _ caps' hfr hcs =>
        cases hcs
        cases hfr with
        | yield _ g N' hi =>
        obtain ⟨g2, L, hi2, hL, hsz, hround⟩ := round_sim hc hE hargs R
        have : g2 = g := by rw [hi] at hi2; injection hi2 with hi2; injection hi2 with hi2 _; exact hi2.symm
        subst this
        have hrun := exec_call_yield (P := P) (w := w) e1 e2 hX hL (by simpa using hsz)
        have hs := st_op_round (P := P) (rest := rest) (k := k) (cs := cs) (b := b) ho hw hd hrun
        have hfin : ∀ v', (frOn b a (.inRegion ops (i :: rest) :: k)).finish v' = frOn b (a.put o.dst v') (.inRegion ops rest :: k) := by
          intro v'; rw [fr_finish, ho]; rfl
        rcases hround (frOn b a (.inRegion ops (i :: rest) :: k)) cs with ⟨v, v', H', ι', w', q1, q2, q3, q4, q5⟩ | ⟨v, v', H', ι', w', q1, q2, q3, q4, q5⟩
        · refine .inl ⟨v, v', H', ι', w', q1, q2, q3, q4, .head hs ?_⟩
          show Steps P _ (lone (frOn b (a.put o.dst v') (.inRegion ops rest :: k)) cs w')
          rw [← hfin]
          exact q5
        · exact .inr ⟨v, v', H', ι', w', _, q1, q2, q3, q4, ⟨a, .inRegion ops (i :: rest) :: k, rfl, by simp, rfl⟩, .head hs q5⟩
      · exact hE.elim
    case panic x =>
      obtain ⟨xo, e1, e2⟩ := trOp_panic htr
      have hx := trO_rel RR e2
      simp only [EvV] at hE
      generalize hX : a.eval xo = X at hx
      split at hE
      · rename_i t v he
        rw [he] at hx
        cases hx with
        | iface _ _ v' hv =>
        have hrun : (execOp a.eval o).run P w = .halt (.panic (.iface t v')) w := by
          simp [execOp, e1, hX, Instr.panic, goPanic, Sem.run]
        exact .inr ⟨_, _, H, ι, w, _, hE, Inj.le.refl _, R, .iface _ _ _ hv, ⟨a, .inRegion ops (i :: rest) :: k, rfl, by simp, rfl⟩, .one (st_op_panic (rest := rest) ho hw hd hrun)⟩
      · exact hE.elim

theorem find_rel {hint : Hint} {N : Nat} {rf : Bool} {l : Nat} : ∀ (c : Code) (ac : ACode), trC P hint N rf c = some ac →
    (findLabel c l = none ∧ findL ac l = none) ∨ ∃ r ar, findLabel c l = some r ∧ findL ac l = some ar ∧ trC P hint N rf r = some ar := by
  intro c
  induction c generalizing rf with
  | seq x y ihx ihy =>
    intro ac h
    simp only [trC] at h
    split at h <;> try (cases h; done)
    rename_i ax ay hx hy
    injection h with h
    subst h
    rcases ihx ax hx with ⟨h1, h2⟩ | ⟨r, ar, h1, h2, h3⟩
    · rcases ihy ay hy with ⟨h4, h5⟩ | ⟨r, ar, h4, h5, h6⟩
      · exact .inl ⟨by simp [findLabel, h1, h4], by simp [findL, h2, h5]⟩
      · exact .inr ⟨r, ar, by simp [findLabel, h1, h4], by simp [findL, h2, h5], h6⟩
    · exact .inr ⟨.seq r y, .seq ar ay, by simp [findLabel, h1], by simp [findL, h2], by simp [trC, h3, hy]⟩
  | label l' =>
    intro ac h
    simp only [trC, Option.some.injEq] at h
    subst h
    by_cases e : l' = l
    · exact .inr ⟨.skip, .skip, by simp [findLabel, e], by simp [findL, e], by simp [trC]⟩
    · exact .inl ⟨by simp [findLabel, e], by simp [findL, e]⟩
  | region id ops draw =>
    intro ac h
    simp only [trC] at h
    refine .inl ⟨by simp [findLabel], ?_⟩
    (repeat' split at h) <;> first | (cases h; done) | (injection h with h; subst h; simp [findL])
  | _ =>
    intro ac h
    simp only [trC] at h
    refine .inl ⟨by simp [findLabel], ?_⟩
    first
    | (cases h; done)
    | (injection h with h; subst h; simp [findL]; done)
    | ((repeat' split at h) <;> first | (cases h; done) | (injection h with h; subst h; simp [findL]; done))

theorem trC_jump {hint : Hint} {N : Nat} {rf : Bool} {c : Code} {j : ACode} {e : AEx} (h : trC P hint N rf c = some j) (hj : jumpTo j = some e) : (∃ id, c = .exit id ∧ e = .exit id) ∨ (∃ l, c = .goto l ∧ e = .goto l) ∨ (c = .ret ∧ e = .ret) := by
  cases c <;> simp only [trC] at h
  case exit id => injection h with h; subst h; simp only [jumpTo, Option.some.injEq] at hj; exact .inl ⟨id, rfl, hj.symm⟩
  case goto l => injection h with h; subst h; simp only [jumpTo, Option.some.injEq] at hj; exact .inr (.inl ⟨l, rfl, hj.symm⟩)
  case ret => injection h with h; subst h; simp only [jumpTo, Option.some.injEq] at hj; exact .inr (.inr ⟨rfl, hj.symm⟩)
  all_goals first
    | (cases h; done)
    | (injection h with h; subst h; simp [jumpTo] at hj; done)
    | ((repeat' split at h) <;> first | (cases h; done) | (injection h with h; subst h; simp [jumpTo] at hj; done))

theorem Arr.pass {m : Machine} {b : Frame} {x : Item} {k : List Item} {cs : List Frame} {ι : Inj} {N : Nat} {ρ : Rg} {ds : List Deferred} {w : World} {e : AEx} (h1 : ∀ id, exitTo id (x :: k) = exitTo id k) (h2 : ∀ l, gotoIn l (x :: k) = gotoIn l k) (he : e ≠ .nrm)
    (h : Arr P m b (x :: k) cs ι N ρ ds w e) : Arr P m b k cs ι N ρ ds w e := by
  cases e with
  | nrm => exact absurd rfl he
  | exit id => obtain ⟨a, k', q1, q2, q3, q4⟩ := h; exact ⟨a, k', q1, q2, q3.trans (h1 id), q4⟩
  | goto l => obtain ⟨a, k', q1, q2, q3, q4⟩ := h; exact ⟨a, k', q1, q2, q3.trans (h2 l), q4⟩
  | ret => exact h
  | pan v => exact h
theorem CodeOut.of_steps {F : Nat → Option Obj} {w0 : World} {ι ι1 : Inj} {N : Nat} {rf : Bool} {ms ms1 : List Nat} {Q : Post} {m m1 : Machine} {b : Frame} {k : List Item} {cs : List Frame} (hs : Steps P m m1) (hι : ι.le ι1) (hms : rf = false → ms1 = ms)
    (h : CodeOut P F w0 ι1 N rf ms1 Q m1 b k cs) : CodeOut P F w0 ι N rf ms Q m b k cs := by
  obtain ⟨e, ρ', H', ι', w', ms', h1, h2, h3, h4, h5, h6⟩ := h
  exact ⟨e, ρ', H', ι', w', ms', h1, hι.trans h2, h3, fun h => (h4 h).trans (hms h), h5, h6.of_steps hs⟩
theorem CodeOut.mono {F : Nat → Option Obj} {w0 : World} {ι : Inj} {N : Nat} {rf : Bool} {ms : List Nat} {Q Q' : Post} {m : Machine} {b : Frame} {k : List Item} {cs : List Frame} (h : CodeOut P F w0 ι N rf ms Q m b k cs) (hq : ∀ e ρ H, Q e ρ H → Q' e ρ H) : CodeOut P F w0 ι N rf ms Q' m b k cs := by
  obtain ⟨e, ρ', H', ι', w', ms', h1, h2, h3, h4, h5, h6⟩ := h
  exact ⟨e, ρ', H', ι', w', ms', hq _ _ _ h1, h2, h3, h4, h5, h6⟩

theorem scopeSim_succ {n : Nat} (hc : CodeSim P T n) (hs : ScopeSim P T n) : ScopeSim P T (n + 1) := by
  intro c cur ac acur hint N rf htr htr2 ρ H Q hE F ms w0 ι w a b k cs hrf hm hd R RR
  simp only [Ev] at hE
  obtain ⟨e, ρ1, H1, ι1, w1, ms1, hq, hι, hm1, hms1, R1, harr⟩ := hc cur acur hint N rf htr2 ρ H _ hE F ms w0 ι w a b (.inScope c :: k) cs (.code cur) hrf (.inl rfl) hm hd R RR
  cases e with
  | nrm =>
    obtain ⟨a1, q1, q2, q3⟩ := harr
    exact ⟨.nrm, ρ1, H1, ι1, w1, ms1, hq, hι, hm1, hms1, R1, a1, q1, q2, q3.trans (.one st_inScope)⟩
  | exit id =>
    obtain ⟨a1, k', q1, q2, q3, q4⟩ := harr
    exact ⟨.exit id, ρ1, H1, ι1, w1, ms1, hq, hι, hm1, hms1, R1, a1, k', q1, q2, q3.trans (by simp [exitTo]), q4⟩
  | ret => exact ⟨.ret, ρ1, H1, ι1, w1, ms1, hq, hι, hm1, hms1, R1, harr⟩
  | pan v => exact ⟨.pan v, ρ1, H1, ι1, w1, ms1, hq, hι, hm1, hms1, R1, harr⟩
  | goto l =>
    obtain ⟨a1, k', q1, q2, q3, q4⟩ := harr
    dsimp only at hq
    rcases find_rel (l := l) c ac htr with ⟨f1, f2⟩ | ⟨r, ar, f1, f2, f3⟩
    · rw [f2] at hq
      exact ⟨.goto l, ρ1, H1, ι1, w1, ms1, hq, hι, hm1, hms1, R1, a1, k', q1, q2, q3.trans (by simp [gotoIn, f1]), q4⟩
    · rw [f2] at hq
      have := hs c r ac ar hint N rf htr f3 ρ1 H1 Q hq F ms1 w0 ι1 w1 a1 b k cs hrf hm1 q1 R1 q2
      refine this.of_steps (q4.trans (.one (st_goto ?_))) hι hms1
      rw [q3]
      simp [gotoIn, f1]

theorem run_enterLoop {w : World} {fn : Nat} {tmps : Array Value} {ps : Array Nat} {x y : Code} :
    (Instr.enterLoop fn tmps ps x y none).run P w = .ok (w.heap.size + 1, [{ target := .collected w.heap.size, args := #[] }]) ((w.alloc (.deferred (some []))).alloc (.loop { state := .ready, pending := none, fn, tmps, params := ps, assign := x, body := y, defers := w.heap.size })) := by
  simp [Instr.enterLoop, newObj, Sem.run]

section
variable {b : Frame} {a : Act} {k : List Item} {cs : List Frame} {w : World}
/-- The frame that has called an iterator's function. -/
def rangeFr (b : Frame) (a : Act) (k : List Item) (w : World) : Frame :=
  frOn b ⟨a.tmps, { target := .collected w.heap.size, args := #[] } :: a.defers⟩ (.inRangeFunc (w.heap.size + 1) :: k)
def rangeW (b : Frame) (a : Act) (ps : Array Nat) (x y : Code) (w : World) : World :=
  (w.alloc (.deferred (some []))).alloc (.loop { state := .ready, pending := none, fn := b.fn, tmps := a.tmps, params := ps, assign := x, body := y, defers := w.heap.size })
theorem exec_range {f : Operand} {ps : Array Nat} {x y : Code} {g : Nat} {caps : List Value} (hr : b.roundOf = none) (hv : a.eval f = .func (.func g) #[] caps.toArray) :
    stepG P true { frame := frOn b a (.code (.rangeFunc f ps x y) :: k), callers := cs, status := .running, dying := none } w =
      GStep.after (seen P b.fn ((Instr.enterLoop b.fn a.tmps ps x y none).runT P w #[]).2) (stepG.apply P true (rangeFr b a k w) cs none (callFunc g (Value.func (.yield (w.heap.size + 1)) #[] #[] :: caps).toArray) (rangeW b a ps x y w)) := by
  have he := run_enterLoop (P := P) (w := w) (fn := b.fn) (tmps := a.tmps) (ps := ps) (x := x) (y := y)
  have hev : ∀ k', ({ fn := b.fn, tmps := a.tmps, todo := k', defers := { target := .collected w.heap.size, args := #[] } :: a.defers, mode := .run, kind := b.kind, roundOf := b.roundOf } : Frame).eval = a.eval := by
    intro k'; funext z; cases z <;> rfl
  simp only [stepG, stepG.exec, frOn, hr, Sem.runT_eq, he, rangeFr, rangeW]
  simp only [resolve, List.cons_append, List.nil_append]
  rw [← hr, hev, hv]
  simp [Deferred.ofValue, invoke, Act.eval]
theorem st_range_value {f : Operand} {ps : Array Nat} {x y : Code} {g : Nat} {caps : List Value} (hr : b.roundOf = none) (hv : a.eval f = .func (.func g) #[] caps.toArray) {v : Value} {w' : World}
    (h : (callFunc g (Value.func (.yield (w.heap.size + 1)) #[] #[] :: caps).toArray).run P (rangeW b a ps x y w) = .ok (.value v) w') :
    step P (lone (frOn b a (.code (.rangeFunc f ps x y) :: k)) cs w) = .next (lone ((rangeFr b a k w).finish v) cs w') := by
  refine step_lone_go ?_
  rw [exec_range hr hv]
  simp [stepG.apply, h]
theorem st_range_enter {f : Operand} {ps : Array Nat} {x y : Code} {g : Nat} {caps : List Value} (hr : b.roundOf = none) (hv : a.eval f = .func (.func g) #[] caps.toArray) {g' : Nat} {args : Array Value} {w' : World}
    (h : (callFunc g (Value.func (.yield (w.heap.size + 1)) #[] #[] :: caps).toArray).run P (rangeW b a ps x y w) = .ok (.enter g' args) w') :
    step P (lone (frOn b a (.code (.rangeFunc f ps x y) :: k)) cs w) = .next (lone (Frame.enter P g' args .normal) (rangeFr b a k w :: cs) w') := by
  refine step_lone_go ?_
  rw [exec_range hr hv]
  simp [stepG.apply, h, rangeFr, frOn]
theorem st_endRange {l : Nat} {L : Loop} (hL : w.heap[l]? = some (.loop L)) (hs : L.state ≠ .busy) :
    step P (lone (frOn b a (.endRangeFunc l :: k)) cs w) = .next (lone (frOn b a ((L.pending.map Item.code).toList ++ k)) cs { w with heap := w.heap.set! l (.loop { L with state := .exhausted }) }) := by
  have hrun : (Instr.endLoop l).run P w = .ok L.pending { w with heap := w.heap.set! l (.loop { L with state := .exhausted }) } := by
    unfold Instr.endLoop
    simp only [Sem.run_bind, run_getLoop hL, Result.andThen_ok]
    have : (L.state == LoopState.busy) = false := by simpa using hs
    rw [this]
    simp [run_setLoop _ hL]
  refine step_lone_go ?_
  simp [stepG, stepG.exec, frOn, hrun]
end
end
end Rst
/- What code comes to in the abstract machine is what the model's machine comes to: the end of the induction. -/
set_option linter.unusedVariables false
set_option linter.unusedSimpArgs false
namespace Rst
open Go

section
variable {P : Program} {T : FTab}

theorem regOut_code {F : Nat → Option Obj} {w0 : World} {ι : Inj} {N : Nat} {rf : Bool} {ms : List Nat} {Q : Post} {m : Machine} {ops : Array Oper} {b : Frame} {k : List Item} {cs : List Frame} (hm : MOk F ms)
    (h : RegOut P (CRl P) (Fx F ms) w0 ι N Q m ops b (marks ms) k cs) : CodeOut P F w0 ι N rf ms Q m b k cs := by
  rcases h with ⟨ρ', H', ι', w', a', h1, h2, h3, h4, h5, h6⟩ | ⟨v, v', ρ', H', ι', w', fr, h1, h2, h3, h4, h5, h6⟩
  · exact ⟨.nrm, ρ', H', ι', w', ms, h1, h2, hm, fun _ => rfl, h3, a', h5, h4, h6.trans (.one st_region_end)⟩
  · exact ⟨.pan v, ρ', H', ι', w', ms, h1, h2, hm, fun _ => rfl, h3, v', fr, h4, h5, h6⟩

theorem rangeSim {n : Nat} (hT : TOk P T) (hc : CodeSim P T n) {f : Operand} {ps : Array Nat} {asg body : Code} {ac : ACode} {hint : Hint} {N : Nat} {rf : Bool} (htr : trC P hint N rf (.rangeFunc f ps asg body) = some ac) {ρ : Rg} {H : AH} {Q : Post} (hE : Ev T (n + 1) ac ρ H Q)
    {F : Nat → Option Obj} {ms : List Nat} {w0 : World} {ι : Inj} {w : World} {a : Act} {b : Frame} {k : List Item} {cs : List Frame} (hrf : rf = true → b.roundOf = none) (hm : MOk F ms) (hd : a.defers = marks ms) (R : Rel (CRl P) (Fx F ms) w0 ι H w) (RR : RRel ι N ρ a.tmps) :
    CodeOut P F w0 ι N rf ms Q (lone (frOn b a (.code (.rangeFunc f ps asg body) :: k)) cs w) b k cs := by
  simp only [trC] at htr
  split at htr <;> try (cases htr; done)
  rename_i hcond
  obtain ⟨hrft, hps⟩ := hcond
  split at htr <;> try (cases htr; done)
  rename_i fo aa ab h1 h2 h3
  injection htr with htr
  subst htr
  have hr := hrf hrft
  simp only [Ev] at hE
  have hf := trO_rel RR h1
  generalize hX : a.eval f = X at hf
  split at hE <;> try (exact hE.elim)
  rename_i g caps hfe
  rw [hfe] at hf
  cases hf with
  | func _ _ _ caps' hfr hcs =>
  cases hfr
  obtain ⟨R1, hm1⟩ := R.markFx hm
  have hsz : (w.alloc (.deferred (some []))).heap.size = w.heap.size + 1 := by simp
  have hlr : LRel (CRl P) ι .ready none ρ ps.toList aa ab { state := .ready, pending := none, fn := b.fn, tmps := a.tmps, params := ps, assign := asg, body := body, defers := w.heap.size } := by
    refine ⟨.ready, trivial, ?_, rfl, ?_, ?_, ?_⟩
    · have := RR
      rw [← RR.1] at this
      exact this
    · intro p hp
      show p < a.tmps.size
      rw [RR.1]
      rw [List.all_eq_true] at hps
      simpa [Nat.blt_eq] using hps p hp
    · show CRl P a.tmps.size asg aa
      rw [RR.1]
      exact ⟨hint, h2⟩
    · show CRl P a.tmps.size body ab
      rw [RR.1]
      exact ⟨hint, h3⟩
  have R2 := R1.alloc (BRel.loop .ready none ρ ps.toList aa ab _ hlr) rfl
  rw [hsz] at R2
  have hle1 := R1.le_upd (w.heap.size + 1, 0, 0)
  generalize hι1 : ι.upd H.next (w.heap.size + 1, 0, 0) = ι1 at R2 hle1
  have hι1l : ι1 H.next = some (w.heap.size + 1, 0, 0) := by rw [← hι1]; exact upd_same _ _ _
  have hargs : VsRel ι1 (.func (.yield H.next) [] :: caps) (Value.func (.yield (w.heap.size + 1)) #[] #[] :: caps') :=
    .cons _ _ _ _ (.func _ _ [] [] (.yield H.next _ 0 hι1l) .nil) (hcs.mono hle1)
  -- after the call
  have after : ∀ (H2 : AH) (ι2 : Inj) (w2 : World) (v' : Value), ι1.le ι2 → Rel (CRl P) (Fx F (w.heap.size :: ms)) w0 ι2 H2 w2 → Steps P (lone (frOn b a (.code (.rangeFunc f ps asg body) :: k)) cs w) (lone ((rangeFr b a k w).finish v') cs w2) →
      (match H2.get H.next with
        | some (.loop .busy _ _ _ _ _) => False
        | some (.loop _ none _ _ _ _) => Q .nrm ρ (H2.set H.next .dead)
        | some (.loop _ (some j) _ _ _ _) => (match jumpTo j with
          | some e => Q e ρ (H2.set H.next .dead)
          | none => False)
        | _ => False) → CodeOut P F w0 ι N rf ms Q (lone (frOn b a (.code (.rangeFunc f ps asg body) :: k)) cs w) b k cs := by
    intro H2 ι2 w2 v' hι2 R3 hs hpost
    have hfin : (rangeFr b a k w).finish v' = frOn b ⟨a.tmps, marks (w.heap.size :: ms)⟩ (.endRangeFunc (w.heap.size + 1) :: k) := by
      simp [rangeFr, frOn, Frame.finish, hd, marks]
    rw [hfin] at hs
    have core : ∀ st pd ρ2 ps2 x2 y2, H2.get H.next = some (.loop st pd ρ2 ps2 x2 y2) → st ≠ .busy → ∃ L : Loop, PRel (CRl P) L.tmps.size pd L.pending ∧ ∃ w3, Rel (CRl P) (Fx F (w.heap.size :: ms)) w0 ι2 (H2.set H.next .dead) w3 ∧
        Steps P (lone (frOn b a (.code (.rangeFunc f ps asg body) :: k)) cs w) (lone (frOn b ⟨a.tmps, marks (w.heap.size :: ms)⟩ ((L.pending.map Item.code).toList ++ k)) cs w3) := by
      intro st pd ρ2 ps2 x2 y2 hg hst
      obtain ⟨g2, L, hi2, hL, hl⟩ := R3.loopAt hg
      have : g2 = w.heap.size + 1 := by
        have := hι2 _ _ hι1l
        rw [this] at hi2
        injection hi2 with hi2
        injection hi2 with hi2 _
        exact hi2.symm
      subst this
      have hLs : L.state ≠ .busy := by
        intro e
        have := hl.state
        rw [e] at this
        cases this
        exact hst rfl
      refine ⟨L, hl.pend, _, ?_, hs.trans (.one (st_endRange hL hLs))⟩
      exact R3.put (o2 := .dead) (x := .loop { L with state := .exhausted }) hg rfl hi2 ⟨rfl, rfl, rfl, by simp, fun r hr => by simp [Array.getElem?_setIfInBounds, Ne.symm hr]⟩ (by simp [heap_lt hL]) (fun h => by cases h) (fun h => by cases h)
    have RRf : RRel ι2 N ρ a.tmps := RR.mono (hle1.trans hι2)
    split at hpost
    · exact hpost.elim
    · rename_i st ρ2 ps2 x2 y2 hne hg
      obtain ⟨L, hp, w3, R4, hs4⟩ := core _ _ _ _ _ _ hg (fun e => hne e)
      cases hpd : L.pending with
      | some cj => rw [hpd] at hp; exact hp.elim
      | none =>
        rw [hpd] at hs4
        exact ⟨.nrm, ρ, _, ι2, w3, w.heap.size :: ms, hpost, hle1.trans hι2, hm1, (fun e => by rw [e] at hrft; cases hrft), R4, ⟨a.tmps, marks (w.heap.size :: ms)⟩, rfl, RRf, hs4⟩
    · rename_i st j ρ2 ps2 x2 y2 hne hg
      obtain ⟨L, hp, w3, R4, hs4⟩ := core _ _ _ _ _ _ hg (fun e => hne e)
      split at hpost <;> try (exact hpost.elim)
      rename_i e hje
      cases hpd : L.pending with
      | none => rw [hpd] at hp; exact hp.elim
      | some cj =>
        rw [hpd] at hp hs4
        obtain ⟨hint2, hp⟩ := hp
        rcases trC_jump hp hje with ⟨id, rfl, rfl⟩ | ⟨l, rfl, rfl⟩ | ⟨rfl, rfl⟩
        · exact ⟨.exit id, ρ, _, ι2, w3, w.heap.size :: ms, hpost, hle1.trans hι2, hm1, (fun e => by rw [e] at hrft; cases hrft), R4, ⟨a.tmps, marks (w.heap.size :: ms)⟩, k, rfl, RRf, rfl, hs4⟩
        · exact ⟨.goto l, ρ, _, ι2, w3, w.heap.size :: ms, hpost, hle1.trans hι2, hm1, (fun e => by rw [e] at hrft; cases hrft), R4, ⟨a.tmps, marks (w.heap.size :: ms)⟩, k, rfl, RRf, rfl, hs4⟩
        · exact ⟨.ret, ρ, _, ι2, w3, w.heap.size :: ms, hpost, hle1.trans hι2, hm1, (fun e => by rw [e] at hrft; cases hrft), R4, ⟨a.tmps, marks (w.heap.size :: ms)⟩, k, rfl, RRf, hs4⟩
    · exact hpost.elim
  have hwW : rangeW b a ps asg body w = (w.alloc (.deferred (some []))).alloc (.loop { state := .ready, pending := none, fn := b.fn, tmps := a.tmps, params := ps, assign := asg, body := body, defers := w.heap.size }) := rfl
  rw [← hwW] at R2
  rcases funcSim_of hT hc g _ _ _ _ hE (Fx F (w.heap.size :: ms)) w0 ι1 _ _ hargs R2 with ⟨v, v', H', ι', w', q1, q2, q3, q4, q5⟩ | ⟨q1, q2⟩
  · exact after H' ι' w' v' q2 q3 (.one (st_range_value hr hX q5)) q1
  · obtain ⟨e, w', fr, q3, q4, q5, q6⟩ := q2 (rangeFr b a k w :: cs)
    have hs := st_range_enter (P := P) (k := k) (cs := cs) hr hX q1
    rcases q3 with ⟨v, v', H', ι', rfl, c1, c2, c3, c4⟩ | ⟨v, v', H', ι', rfl, c1, c2, c3, c4⟩
    · exact after H' ι' w' v' c2 c3 (.head hs (Steps.trans q4 (.one (step_leave_returned q6)))) c1
    · refine ⟨.pan v, ρ, H', ι', w', w.heap.size :: ms, c1, hle1.trans c2, hm1, (fun e => by rw [e] at hrft; cases hrft), c3, v', _, c4, ⟨⟨a.tmps, marks (w.heap.size :: ms)⟩, .inRangeFunc (w.heap.size + 1) :: k, rfl, by simp, ?_⟩, .head hs (Steps.trans q4 (.one (step_leave_panicked q6)))⟩
      simp [rangeFr, Frame.raise, frOn, hd, marks]

theorem opens_eq {it : Item} {c : Code} (h : Opens it c) (hn : ∀ z, c ≠ .loop z) : it = .code c := by
  rcases h with h | ⟨z, h, _⟩
  · exact h
  · exact absurd h (hn z)

theorem codeSim_succ {n : Nat} (hT : TOk P T) (hmix : P.follows .mixedOrders = true) (hc : CodeSim P T n) (hs : ScopeSim P T n) : CodeSim P T (n + 1) := by
  intro c ac hint N rf htr ρ H Q hE F ms w0 ι w a b k cs it hrf hop hm hd R RR
  have OS := operSim_of hT hc
  cases c with
  | skip =>
    have hit := opens_eq hop (by intro z e; cases e)
    subst hit
    simp only [trC, Option.some.injEq] at htr
    subst htr
    simp only [Ev] at hE
    exact ⟨.nrm, ρ, H, ι, w, ms, hE, Inj.le.refl _, hm, fun _ => rfl, R, a, hd, RR, .one st_skip⟩
  | label l =>
    have hit := opens_eq hop (by intro z e; cases e)
    subst hit
    simp only [trC, Option.some.injEq] at htr
    subst htr
    simp only [Ev] at hE
    exact ⟨.nrm, ρ, H, ι, w, ms, hE, Inj.le.refl _, hm, fun _ => rfl, R, a, hd, RR, .one st_label⟩
  | exit id =>
    have hit := opens_eq hop (by intro z e; cases e)
    subst hit
    simp only [trC, Option.some.injEq] at htr
    subst htr
    simp only [Ev] at hE
    exact ⟨.exit id, ρ, H, ι, w, ms, hE, Inj.le.refl _, hm, fun _ => rfl, R, a, k, hd, RR, rfl, Steps.refl _ _⟩
  | goto l =>
    have hit := opens_eq hop (by intro z e; cases e)
    subst hit
    simp only [trC, Option.some.injEq] at htr
    subst htr
    simp only [Ev] at hE
    exact ⟨.goto l, ρ, H, ι, w, ms, hE, Inj.le.refl _, hm, fun _ => rfl, R, a, k, hd, RR, rfl, Steps.refl _ _⟩
  | ret =>
    have hit := opens_eq hop (by intro z e; cases e)
    subst hit
    simp only [trC, Option.some.injEq] at htr
    subst htr
    simp only [Ev] at hE
    exact ⟨.ret, ρ, H, ι, w, ms, hE, Inj.le.refl _, hm, fun _ => rfl, R, a, k, hd, RR, Steps.refl _ _⟩
  | refuse why => simp [trC] at htr
  | region id ops draw =>
    have hit := opens_eq hop (by intro z e; cases e)
    subst hit
    simp only [trC] at htr
    split at htr <;> try (cases htr; done)
    rename_i l hl
    split at htr
    · rename_i hdraw
      subst hdraw
      split at htr <;> try (cases htr; done)
      rename_i hb
      split at htr <;> try (cases htr; done)
      rename_i als hal
      injection htr with htr
      subst htr
      simp only [Ev] at hE
      have hstep := st_region_draw (P := P) (b := b) (a := a) (k := k) (cs := cs) (w := w) (ops := ops) (id := id)
      rw [hmix] at hstep
      have hT' : tabOk ops (ancTab ops) = true := by
        simp only [altsB, Bool.and_eq_true] at hb
        exact hb.1.1.1
      have := drawn_region (P := P) (CR := CRl P) (b := b) (k := k) (cs := cs) hb hl OS hal hE R.drew RR (sched_lin (tab_back hT') (w.tape w.drawn (.order b.fn id)))
      rw [hd] at this
      exact (regOut_code hm this).of_steps (.one hstep) (Inj.le.refl _) (fun _ => rfl)
    · rename_i hdraw
      have hdraw : draw = false := by simpa using hdraw
      subst hdraw
      injection htr with htr
      subst htr
      simp only [Ev] at hE
      have hstep := st_region (P := P) (b := b) (a := a) (k := k) (cs := cs) (w := w) (ops := ops) (id := id)
      have := text_region (P := P) (CR := CRl P) (b := b) (k := k) (cs := cs) hl OS ops.size 0 (by simp) ρ H ι w a (by simpa using hE) R RR
      rw [hd, ← List.range_eq_range'] at this
      exact (regOut_code hm this).of_steps (.one hstep) (Inj.le.refl _) (fun _ => rfl)
  | seq x y =>
    have hit := opens_eq hop (by intro z e; cases e)
    subst hit
    simp only [trC] at htr
    split at htr <;> try (cases htr; done)
    rename_i ax ay hx hy
    injection htr with htr
    subst htr
    simp only [Ev] at hE
    obtain ⟨e, ρ1, H1, ι1, w1, ms1, hq, hι, hm1, hms1, R1, harr⟩ := hc x ax hint N rf hx ρ H _ hE F ms w0 ι w a b (.code y :: k) cs (.code x) hrf (.inl rfl) hm hd R RR
    have harr := harr.of_steps (.one (st_seq (x := x) (y := y)))
    by_cases he : e = .nrm
    · subst he
      obtain ⟨a1, q1, q2, q3⟩ := harr
      exact (hc y ay hint N rf hy ρ1 H1 Q hq F ms1 w0 ι1 w1 a1 b k cs (.code y) hrf (.inl rfl) hm1 q1 R1 q2).of_steps q3 hι hms1
    · have hq' : Q e ρ1 H1 := by cases e <;> first | exact absurd rfl he | exact hq
      exact ⟨e, ρ1, H1, ι1, w1, ms1, hq', hι, hm1, hms1, R1, harr.pass (fun _ => by simp [exitTo]) (fun _ => by simp [gotoIn]) he⟩
  | cond c x y =>
    have hit := opens_eq hop (by intro z e; cases e)
    subst hit
    simp only [trC] at htr
    split at htr <;> try (cases htr; done)
    rename_i co ax ay hco hx hy
    injection htr with htr
    subst htr
    simp only [Ev] at hE
    have hcv := trO_rel RR hco
    generalize hX : a.eval c = X at hcv
    split at hE
    · rename_i he
      rw [he] at hcv
      cases hcv
      have hstep := st_cond (P := P) (b := b) (k := k) (cs := cs) (w := w) (x := x) (y := y) hX
      exact (hc x ax hint N rf hx ρ H Q hE F ms w0 ι w a b k cs (.code x) hrf (.inl rfl) hm hd R RR).of_steps (.one hstep) (Inj.le.refl _) (fun _ => rfl)
    · rename_i he
      rw [he] at hcv
      cases hcv
      have hstep := st_cond (P := P) (b := b) (k := k) (cs := cs) (w := w) (x := x) (y := y) hX
      exact (hc y ay hint N rf hy ρ H Q hE F ms w0 ι w a b k cs (.code y) hrf (.inl rfl) hm hd R RR).of_steps (.one hstep) (Inj.le.refl _) (fun _ => rfl)
    · exact hE.elim
  | block id x =>
    have hit := opens_eq hop (by intro z e; cases e)
    subst hit
    simp only [trC] at htr
    split at htr <;> try (cases htr; done)
    rename_i ax hx
    injection htr with htr
    subst htr
    simp only [Ev] at hE
    obtain ⟨e, ρ1, H1, ι1, w1, ms1, hq, hι, hm1, hms1, R1, harr⟩ := hc x ax hint N rf hx ρ H _ hE F ms w0 ι w a b (.inBlock id :: k) cs (.code x) hrf (.inl rfl) hm hd R RR
    have harr := harr.of_steps (.one (st_block (id := id) (c := x)))
    cases e with
    | nrm =>
      obtain ⟨a1, q1, q2, q3⟩ := harr
      exact ⟨.nrm, ρ1, H1, ι1, w1, ms1, hq, hι, hm1, hms1, R1, a1, q1, q2, q3.trans (.one st_inBlock)⟩
    | exit i =>
      obtain ⟨a1, k', q1, q2, q3, q4⟩ := harr
      simp only [Post.inBlock] at hq
      by_cases e : i = id
      · rw [if_pos e] at hq
        subst e
        exact ⟨.nrm, ρ1, H1, ι1, w1, ms1, hq, hι, hm1, hms1, R1, a1, q1, q2, q4.trans (.one (st_exit (by rw [q3]; simp [exitTo])))⟩
      · rw [if_neg e] at hq
        refine ⟨.exit i, ρ1, H1, ι1, w1, ms1, hq, hι, hm1, hms1, R1, a1, k', q1, q2, ?_, q4⟩
        rw [q3]
        have : (id == i) = false := by simpa using Ne.symm e
        simp [exitTo, this]
    | goto l =>
      obtain ⟨a1, k', q1, q2, q3, q4⟩ := harr
      exact ⟨.goto l, ρ1, H1, ι1, w1, ms1, hq, hι, hm1, hms1, R1, a1, k', q1, q2, q3.trans (by simp [gotoIn]), q4⟩
    | ret => exact ⟨.ret, ρ1, H1, ι1, w1, ms1, hq, hι, hm1, hms1, R1, harr⟩
    | pan v => exact ⟨.pan v, ρ1, H1, ι1, w1, ms1, hq, hι, hm1, hms1, R1, harr⟩
  | loop x =>
    have htr0 := htr
    simp only [trC] at htr
    split at htr <;> try (cases htr; done)
    rename_i ax hx
    injection htr with htr
    subst htr
    simp only [Ev] at hE
    have hstart : step P (lone (frOn b a (it :: k)) cs w) = .next (lone (frOn b a (.code x :: .inLoop x :: k)) cs w) := by
      rcases hop with rfl | ⟨y, h, rfl⟩
      · exact st_loop
      · injection h with h; subst h; exact st_inLoop
    obtain ⟨e, ρ1, H1, ι1, w1, ms1, hq, hι, hm1, hms1, R1, harr⟩ := hc x ax hint N rf hx ρ H _ hE F ms w0 ι w a b (.inLoop x :: k) cs (.code x) hrf (.inl rfl) hm hd R RR
    have harr := harr.of_steps (.one hstart)
    by_cases he : e = .nrm
    · subst he
      obtain ⟨a1, q1, q2, q3⟩ := harr
      exact (hc (.loop x) (.loop ax) hint N rf htr0 ρ1 H1 Q hq F ms1 w0 ι1 w1 a1 b k cs (.inLoop x) hrf (.inr ⟨x, rfl, rfl⟩) hm1 q1 R1 q2).of_steps q3 hι hms1
    · have hq' : Q e ρ1 H1 := by cases e <;> first | exact absurd rfl he | exact hq
      exact ⟨e, ρ1, H1, ι1, w1, ms1, hq', hι, hm1, hms1, R1, harr.pass (fun _ => by simp [exitTo]) (fun _ => by simp [gotoIn]) he⟩
  | scope x =>
    have hit := opens_eq hop (by intro z e; cases e)
    subst hit
    simp only [trC] at htr
    split at htr <;> try (cases htr; done)
    rename_i ax hx
    injection htr with htr
    subst htr
    exact (scopeSim_succ hc hs x x ax ax hint N rf hx hx ρ H Q hE F ms w0 ι w a b k cs hrf hm hd R RR).of_steps (.one st_scope) (Inj.le.refl _) (fun _ => rfl)
  | rangeFunc f ps asg body =>
    have hit := opens_eq hop (by intro z e; cases e)
    subst hit
    exact rangeSim hT hc htr hE hrf hm hd R RR

theorem codeSim (hT : TOk P T) (hmix : P.follows .mixedOrders = true) : ∀ n, CodeSim P T n ∧ ScopeSim P T n := by
  intro n
  induction n with
  | zero =>
    refine ⟨?_, ?_⟩
    · intro c ac hint N rf htr ρ H Q hE
      exact hE.elim
    · intro c cur ac acur hint N rf htr htr2 ρ H Q hE
      exact hE.elim
  | succ n ih => exact ⟨codeSim_succ hT hmix ih.1 ih.2, scopeSim_succ ih.1 ih.2⟩

/-- A call of a function whose text is translated. -/
theorem comes_call (hT : TOk P T) (hmix : P.follows .mixedOrders = true) {f : Nat} {args : List AVal} {H : AH} {Q : AVal → AH → Prop} (h : Rst.Comes T f args H Q) {F : Nat → Option Obj} {w0 : World} {ι : Inj} {w : World} {args' : List Value} (hargs : VsRel ι args args') (R : Rel (CRl P) F w0 ι H w) :
    CallOut P F w0 ι Q (fun _ _ => False) f args'.toArray w := by
  obtain ⟨n, h⟩ := h
  exact funcSim_of hT (codeSim hT hmix n).1 f args H Q _ h F w0 ι w args' hargs R
end
end Rst
/- A function's translation as one closed word. -/
namespace Rst
open Go

def fnTr (P : Program) (h : Hint) (f : Nat) : Option AFunc :=
  match P.funcs[f]? with
  | some fn => if (fn.name == "runtime.NumGoroutine") = true then none else match fn.body with
    | some c => match trC P h fn.ntmps true c, optMap (trRes P) fn.results.toList with
      | some b, some rs => some ⟨fn.ntmps, rs, b⟩
      | _, _ => none
    | none => none
  | none => none
theorem fnTr_ok {P : Program} {h : Hint} {f : Nat} {af : AFunc} (e : fnTr P h f = some af) : FnOk P f af := by
  unfold fnTr at e
  split at e <;> try (cases e; done)
  rename_i fn hf
  split at e <;> try (cases e; done)
  rename_i hn
  split at e <;> try (cases e; done)
  rename_i c hc
  split at e <;> try (cases e; done)
  rename_i b rs hb hr
  injection e with e
  subst e
  exact ⟨fn, c, h, hf, by simpa using hn, hc, hb, rfl, hr⟩
end Rst
