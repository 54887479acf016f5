/- A verified abstract machine for this program, contracts of its functions, and rows: Row, OpenFields. -/
import Derived.Test.YtdpadejfbnbjiaaGreatDoorG
import Derived.ProofKit
import Derived.LaidMore
import Derived.OpenShut
import Derived.Stop.Joined
import Derived.Deep.Slices
import Derived.Deep.Fields
/- From a contract to a row: arguments that read as data, a result that is true. -/
set_option linter.unusedVariables false
namespace Rst
open Go
open Go.ChangeShapes Go.WideShapes Go.ChangeAt Go.RowKit Go.Deep

/-! ### Where a slice that came in lies -/
theorem div_lt_off {a s n : Nat} (hs : s ≠ 0) (h : a / s < n) : a < n * s := (Nat.div_lt_iff_lt_mul (Nat.pos_of_ne_zero hs)).1 h
theorem rowAt_off {p : Program} {fits : TypeId → Bool} {d : Nat} {e : TypeId} {count off n : Nat} (h : rowAt p fits d e count off n = true) : off ≤ count * p.cellsOf e := by
  cases d with
  | zero => simp [rowAt] at h
  | succ d =>
    unfold rowAt at h
    by_cases hs : p.cellsOf e = 0
    · simp [hs] at h
    · simp only [hs, if_false] at h
      rw [Bool.or_eq_true] at h
      rcases h with h | h
      · simp only [Bool.and_eq_true, beq_iff_eq, decide_eq_true_eq] at h
        have h1 := h.1.1
        have h2 := h.1.2
        have h3 := Nat.div_add_mod off (p.cellsOf e)
        rw [h1, Nat.add_zero, Nat.mul_comm] at h3
        rw [← h3]
        exact Nat.mul_le_mul_right _ (by omega)
      · rw [Bool.and_eq_true] at h
        have h1 : off / p.cellsOf e < count := by simpa using h.1
        exact Nat.le_of_lt (div_lt_off hs h1)
theorem liesAt_off {p : Program} : ∀ {d : Nat} {e : TypeId} {count off : Nat} {u : TypeId} {n : Nat}, liesAt p d e count off u n = true → off ≤ count * p.cellsOf e := by
  intro d
  induction d with
  | zero => intro e count off u n h; simp [liesAt] at h
  | succ d ih =>
    intro e count off u n h
    unfold liesAt at h
    rw [Bool.or_eq_true] at h
    rcases h with h | h
    · exact rowAt_off h
    · split at h
      · exact ih h
      · cases h
theorem has_off {P : Program} {w : World} {r : Reach} {base : Nat} {a : Addr} {e : TypeId} {n : Nat} (h : w.has P r base a e n) : a.spot = none ∧ ∃ C T fz, w.heap[a.block]? = some (.cells C T fz) ∧ a.off ≤ C.size := by
  obtain ⟨_, hs, row, cells, hsh, hl⟩ := h
  refine ⟨hs, ?_⟩
  unfold World.shape? at hsh
  split at hsh
  · rename_i C T fz hC
    injection hsh with hsh
    injection hsh with h1 h2
    subst h1 h2
    refine ⟨C, _, fz, hC, ?_⟩
    exact Nat.le_trans (liesAt_off hl) (Nat.div_mul_le_self _ _)
  · cases hsh

/-! ### A block that came in -/
section
variable {CR : CodeRel} {W : World} {ι : Inj} {H : AH}
theorem Rel.addRo (R : Rel CR (Whole W) W ι H W) (hro : ∀ b o, H.get b = some o → o.owned = false) {g o : Nat} {C : Array Value} {T : TypeId} {fz : Nat × Nat} (hg : W.heap[g]? = some (.cells C T fz)) {vs : List AVal} (hv : ∀ (i : Nat) (v : AVal), vs[i]? = some v → ∃ v', C[o + i]? = some v' ∧ VRel ι v v') (hl : o + vs.length ≤ C.size) :
    ι.le (ι.upd H.next (g, o, C.size)) ∧ Rel CR (Whole W) W (ι.upd H.next (g, o, C.size)) (H.alloc (.cells false vs)) W ∧ ∀ b o', (H.alloc (.cells false vs)).get b = some o' → o'.owned = false := by
  have hle := R.le_upd (g, o, C.size)
  have hro' : ∀ b o', (H.alloc (.cells false vs)).get b = some o' → o'.owned = false := by
    intro b o' h
    rw [AH.get_alloc] at h
    split at h
    · injection h with h; subst h; rfl
    · exact hro b o' h
  refine ⟨hle, ⟨rfl, rfl, rfl, Nat.le_refl _, fun r o h => h, ?_, ?_, fun b o' _ _ h1 h2 => by rw [hro' b o' h1] at h2; cases h2⟩, hro'⟩
  · intro b p e
    show b < H.next + 1
    unfold Inj.upd at e
    split at e
    · omega
    · have := R.dom _ _ e; omega
  · intro b o' h hlv
    rw [AH.get_alloc] at h
    split at h
    · rename_i e
      injection h with h
      subst h e
      refine ⟨g, o, C.size, _, upd_same _ _ _, hg, .cells false vs o C T fz (fun i v hi => ?_) (fun e => by cases e) hl⟩
      obtain ⟨v', h1, h2⟩ := hv i v hi
      exact ⟨v', h1, h2.mono hle⟩
    · obtain ⟨g', off, N, x, h1, h2, h3⟩ := R.blk b o' h hlv
      exact ⟨g', off, N, x, hle _ _ h1, h2, h3.mono hle⟩
/-- What has been laid of the arguments. -/
structure Laid (CR : CodeRel) (W : World) (ι : Inj) (H : AH) : Prop where
  rel : Rel CR (Whole W) W ι H W
  ro : ∀ b o, H.get b = some o → o.owned = false
theorem Laid.ok (L : Laid CR W ι H) : HOk H := fun b o h hl => L.rel.get_lt h hl
theorem Laid.start (CR : CodeRel) (W : World) : Laid CR W (fun _ => none) ⟨0, .e⟩ :=
  ⟨Rel.empty W _ 0 (fun _ _ e => by cases e), fun b o h => by simp [AH.get, Tr.get] at h⟩
/-- A slice that came in. -/
theorem Laid.slice (L : Laid CR W ι H) {α : Type} (E : Enc α) {P : Program} {r : Reach} {base : Nat} {e : TypeId} {a : Addr} {len cap : Nat} (hhas : W.has P r base a e cap) (hlc : len ≤ cap) (hbytes : len * E.bytes ≤ 140737488355328)
    (hel : ∀ i, i < cap → ∃ x : α, ∀ (j : Nat) (v : AVal), (E.enc x)[j]? = some v → ∃ v', W.cell? (a.add (i * E.sz + j)) = some v' ∧ ∀ ι, VRel ι v v') :
    ∃ ι' H' s xs, ι.le ι' ∧ Laid CR W ι' H' ∧ (∀ b, b < H.next → H'.get b = H.get b) ∧ H.next ≤ H'.next ∧ Sl E H' s xs ∧ xs.length = len ∧ VRel ι' s (.slice (some a) len cap) := by
  obtain ⟨hsp, C, T, fz, hC, hoff⟩ := has_off hhas
  obtain ⟨g, o, sp⟩ := a
  dsimp only at hsp hC hoff
  subst hsp
  have hcell : ∀ j v', W.cell? ((⟨g, o, none⟩ : Addr).add j) = some v' → C[o + j]? = some v' := by
    intro j v' h
    unfold Addr.add at h
    by_cases hj : j = 0
    · subst hj; simpa [World.cell?, hC] using h
    · simpa [World.cell?, hC, hj] using h
  let X : (i : Nat) → i < cap → α := fun i hi => (hel i hi).choose
  have hX : ∀ i (hi : i < cap) (j : Nat) (v : AVal), (E.enc (X i hi))[j]? = some v → ∃ v', C[o + (i * E.sz + j)]? = some v' ∧ ∀ ι, VRel ι v v' := by
    intro i hi j v hj
    obtain ⟨v', h1, h2⟩ := (hel i hi).choose_spec j v hj
    exact ⟨v', hcell _ _ h1, h2⟩
  have hsize : o + cap * E.sz ≤ C.size := by
    by_cases hc : cap = 0
    · rw [hc]; simpa using hoff
    · have hlast : (E.enc (X (cap - 1) (by omega)))[E.sz - 1]? = some ((E.enc (X (cap - 1) (by omega)))[E.sz - 1]'(by rw [E.len]; have := E.pos; omega)) := List.getElem?_eq_getElem _
      obtain ⟨v', h1, _⟩ := hX (cap - 1) (by omega) (E.sz - 1) _ hlast
      have := (Array.getElem?_eq_some_iff.1 h1).1
      have hp := E.pos
      have e2 : (cap - 1) * E.sz + E.sz = cap * E.sz := by
        have : cap = (cap - 1) + 1 := by omega
        rw [this, Nat.add_mul]; simp
      omega
  let xs : List α := (List.range len).attach.map fun ⟨i, hi⟩ => X i (Nat.lt_of_lt_of_le (List.mem_range.1 hi) hlc)
  have hxl : xs.length = len := by simp [xs]
  have hxi : ∀ i (hi : i < len), xs[i]? = some (X i (by omega)) := by
    intro i hi
    simp [xs, hi]
  have hv : ∀ (i : Nat) (v : AVal), (E.all xs)[i]? = some v → ∃ v', C[o + i]? = some v' ∧ VRel ι v v' := by
    intro i v hi
    have hlt := (List.getElem?_eq_some_iff.1 hi).1
    rw [E.all_length, hxl] at hlt
    have hp := E.pos
    have hk : i / E.sz < len := (Nat.div_lt_iff_lt_mul hp).2 hlt
    have hm : i % E.sz < E.sz := Nat.mod_lt _ hp
    have hi2 : i / E.sz * E.sz + i % E.sz = i := by rw [Nat.mul_comm]; exact Nat.div_add_mod i E.sz
    have hkx : i / E.sz < xs.length := by rw [hxl]; exact hk
    have h1 := E.cell xs (i / E.sz) (i % E.sz) hkx hm
    rw [hi2, hi] at h1
    have h2 : xs[i / E.sz] = X (i / E.sz) (by omega) := by
      have := hxi (i / E.sz) hk
      rw [List.getElem?_eq_getElem hkx] at this
      exact Option.some.inj this
    rw [h2] at h1
    obtain ⟨v', h3, h4⟩ := hX (i / E.sz) (by omega) _ _ h1.symm
    rw [hi2] at h3
    exact ⟨v', h3, h4 ι⟩
  have hlen : o + (E.all xs).length ≤ C.size := by
    rw [E.all_length, hxl]
    have := Nat.mul_le_mul_right E.sz hlc
    omega
  obtain ⟨h1, h2, h3⟩ := L.rel.addRo L.ro hC hv hlen
  refine ⟨_, _, .slice (some (H.next, 0)) xs.length cap E.sz, xs, h1, ⟨h2, h3⟩, fun b hb => AH.get_alloc_lt hb, Nat.le_succ _, sl_block (by rw [hxl]; exact hbytes) AH.get_alloc_new (by rw [hxl]; exact hlc), hxl, ?_⟩
  have e : (⟨g, o, none⟩ : Addr) = ⟨g, o + 0, none⟩ := rfl
  rw [e, hxl]
  exact .slice H.next 0 g o C.size len cap cap E.sz (upd_same _ _ _) hlc (Nat.le_refl _) (fun h => h) (by omega)
end

/-! ### The call -/
theorem calls_of_ext {P : Program} {k : Nat} {af : AFunc} {g : Spec} (hok : FnOk P k af) (hg : ExtOk P k g) {W : World} {ι : Inj} {H H1 : AH} {args : List AVal} {b : Bool} (h : g args H = some (.bool b, H1)) (R : Rel (CRl P) (Whole W) W ι H W) {args' : List Value} (ha : VsRel ι args args') :
    Calls P k args'.toArray W fun e W' => e = .returned (.bool b) ∧ Below W.heap.size W W' := by
  have bel : ∀ {ι' : Inj} {K : AH} {W' : World}, Rel (CRl P) (Whole W) W ι' K W' → Below W.heap.size W W' := by
    intro ι' K W' R'
    refine ⟨R'.os, R'.tape, R'.output, R'.size, fun j hj => ?_⟩
    have hs : W.heap[j]? = some W.heap[j] := Array.getElem?_eq_getElem hj
    rw [hs]
    exact R'.frame j _ hs
  rcases hg args H _ _ h (Whole W) W ι W args' ha R with ⟨v, v', H', ι', w', _, _, _, _, hrun⟩ | ⟨_, hc⟩
  · obtain ⟨fn, c, hint, hf, hname, hb, _⟩ := hok
    rw [run_callFunc hf hname hb] at hrun
    cases hrun
  · refine hc.mono fun e W' h => ?_
    rcases h with ⟨v, v', H', ι', rfl, ⟨rfl, rfl⟩, _, R', hv⟩ | ⟨v, v', H', ι', _, h, _⟩
    · cases hv
      exact ⟨rfl, bel R'⟩
    · exact h.elim

/-! ### The end of a row -/
section
variable {H : Type} {enc : TypeId × Value → H} {P : Program}
theorem trodAll_stays (hl : laidOutB P = true) {W W' : World} {sp : Nat → Bool} : ∀ {ts : List TypeId} {vs : List Value} {ds : List (DataW H)} {ps : List MemPlace}, (∀ t ∈ ts, P.readableRec t = true ∧ t < P.types.size) →
    DataW.TrodAll enc P W 0 (fun _ => true) true ts vs ds ps → (∀ p ∈ ps, W.sameAt W' p) → (∀ p ∈ ps, sp p.block = true) → DataW.TrodAll enc P W' 0 sp true ts vs ds ps
  | [], [], [], _, _, h, _, _ => h
  | t :: ts, v :: vs, d :: ds, _, hts, h, h1, h2 => by
    obtain ⟨p, q, hp, hq, rfl⟩ := h
    exact ⟨p, q, WideElems.Trod_stays hl (hts t (by simp)).1 (hts t (by simp)).2 hp (fun x hx => h1 x (by simp [hx])) (fun x hx => h2 x (by simp [hx])),
      trodAll_stays hl (fun t ht => hts t (by simp [ht])) hq (fun x hx => h1 x (by simp [hx])) (fun x hx => h2 x (by simp [hx])), rfl⟩
  | [], _ :: _, _, _, _, h, _, _ => h.elim
  | [], [], _ :: _, _, _, h, _, _ => h.elim
  | _ :: _, [], _, _, _, h, _, _ => h.elim
  | _ :: _, _ :: _, [], _, _, h, _, _ => h.elim
/-- A law that has returned true, and has left all that stood. -/
theorem law_post (hl : laidOutB P = true) {f : Func} {s : ChangeSpec} {apart fresh handsOn : Bool} {W W' : World} {args : Array Value} {ds : List (DataW H)} {before : List MemPlace} {tb : TypeId}
    (hts : ∀ t ∈ f.params.toList, P.readableRec t = true ∧ t < P.types.size) (hres : f.resultTypes = #[tb]) (hb : P.underlying tb = some .bool) (hvars : s.vars = [])
    (hW : DataW.Whole enc P f.params.toList s.vars apart W args.toList ds [] before) (hfn : s.fn H (ds ++ []) = { results := [.lit (.bool true)], args := ds }) (hbl : Below W.heap.size W W') :
    s.post enc P f apart fresh handsOn false W args (.bool true) W' := by
  have hlt := hW.lt
  have hW0 := hW
  obtain ⟨p, q, hA, hV, hpq, _⟩ := hW0
  have hq : q = [] := by
    rw [hvars] at hV
    exact hV
  subst hq
  refine ⟨ds, [], before, [], p, [], hW, ?_, ?_, ?_, hbl.frame _, fun h => by cases h⟩
  · rw [hfn, hres]
    exact trodAll_mk1 (shut_bool hb true)
  · rw [hfn]
    refine trodAll_stays hl hts hA (fun x hx => hbl.same (hlt x (by rw [hpq]; simp [hx]))) (fun x hx => ?_)
    simpa using hlt x (by rw [hpq]; simp [hx])
  · rw [hfn, hvars]
    rfl
end
end Rst
/- A slice of structs of one-cell fields that came in: every cell (after the guide's small lemma). -/
set_option linter.unusedVariables false
namespace Rst
open Go Go.ChangeShapes Go.WideShapes Go.Deep
section
variable {H : Type} {enc : TypeId × Value → H} {P : Program} {w : World} {base : Nat} {spare : Nat → Bool} {held : Bool}
theorem open_fields {t e : TypeId} {fs : Array Field} {fuel : Nat} {cs : List Value} {x : DataW H × List MemPlace} (ht : P.underlying t = some (.slice e)) (he : P.underlying e = some (.struct fs))
    (hone : oneCellFields P fs = true) (hC : P.cellsOf e = fs.size) (h : DataW.trod enc P w base spare held fuel t cs = some x) :
    (cs = [.slice none 0 0] ∧ x.1 = .nil) ∨
    ∃ (a : Addr) (len cap m : Nat) (elems sp : List (DataW H)), cs = [.slice (some a) len cap] ∧ len ≤ cap ∧ m = (if spare a.block then cap else len) ∧ x.1 = .slice elems sp ∧ elems.length = len ∧
      ∀ i, i < m → ∃ n, ∀ (j : Nat) (f : Field), fs[j]? = some f → ∃ (v : Value) (y : DataW H × List MemPlace), w.cell? (a.add (i * fs.size + j)) = some v ∧ DataW.trod enc P w base spare held n f.type [v] = some y := by
  rcases open_slice ht h with ⟨h0, h1⟩ | ⟨a, len, cap, m, n, D, Pl, hcs, hb, hl, hm, hmm, hx, hi⟩
  · exact .inl ⟨h0, by rw [h1]⟩
  · refine .inr ⟨a, len, cap, m, _, _, hcs, hl, hmm, by rw [hx], by simp, fun i him => ?_⟩
    obtain ⟨cs', hc, ht'⟩ := hi i him
    rw [hC] at hc
    obtain ⟨ys, n', hn', hy, hlen, hyl, hf⟩ := DataW.trod_struct he ht'
    obtain ⟨_, hcl, hat⟩ := World.cells?_some hc
    refine ⟨n', fun j f hj => ?_⟩
    obtain ⟨ho, hk⟩ := hone_of hone j f hj
    have hjl : j < fs.size := (Array.getElem?_eq_some_iff.1 hj).1
    have hcell := hat j hjl
    have hv : cs'[j]? = some (cs'[j]'(by omega)) := List.getElem?_eq_getElem (by omega)
    have h1 := hf j f hj
    rw [ho, hk] at h1
    have hone' : (cs'.drop j).take 1 = [cs'[j]'(by omega)] := by
      rw [List.drop_eq_getElem_cons (by omega)]
      rfl
    rw [hone'] at h1
    have hys : ys[j]? = some (ys[j]'(by omega)) := List.getElem?_eq_getElem (by omega)
    refine ⟨_, _, ?_, h1.trans hys⟩
    rw [← Go.Deep.add_add, hcell, hv]
end
end Rst
