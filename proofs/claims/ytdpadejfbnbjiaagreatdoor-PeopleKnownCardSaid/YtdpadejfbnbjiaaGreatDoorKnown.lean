/- A verified abstract machine for this program, contracts of its functions, and rows: Known. -/
import Derived.Test.YtdpadejfbnbjiaaGreatDoorG
import Derived.Test.YtdpadejfbnbjiaaGreatDoorAlive1
/- Known, and what it is made of. -/
set_option linter.unusedVariables false
set_option linter.unusedSimpArgs false
set_option maxRecDepth 100000
namespace Rst
open Go Go.Proofs
open Go (IntKind BinOp UnOp)
attribute [local congr] RC_congr R1_congr RG_congr RF_congr RT_congr RA_congr
attribute [local simp] Int.natCast_inj run_nil run_ops_nil run_skip run_label run_exit run_goto run_ret run_region run_alts1 run_seq run_block run_blk run_lp run_scp run_cond rc_true rc_false jmp_nil jmp_exit_ops jmp_exit_code jmp_exit_lp jmp_exit_scp jmp_exit_blk jmp_goto_ops jmp_goto_code jmp_goto_lp jmp_goto_blk jmp_ret_ops jmp_ret_code jmp_ret_lp jmp_ret_scp jmp_ret_blk run_mv run_pick run_alloc run_box run_build run_buildS run_load run_store run_nilc run_bin run_eqv run_un run_convI run_convBS run_convSS run_convSB run_mkI run_mkF run_mkM run_mkS run_sl run_slStr run_slArr run_fa run_ia run_iaArr run_idxStr run_idxArr run_fld run_lk run_mu run_del run_ta run_ext run_len run_lenArr run_app run_min run_max run_clr run_cpy run_guard run_call run_again ra_some r1_some r1_pair rg_bool rg_nul rf_func rt_ext put_some put_none retK_ret retK_nrm evOp AO.ev Tr.at_set Tr.get_set abin ibin sbin aun entry lenV resVal resAll resOf AH.next_alloc AH.next_set AH.load1 AH.loadN AVal.cells AVal.isVal
deriving instance DecidableEq for Ent
/-- What was entered up to a day. -/
def knownL (es : List Ent) (d : Int) : List Ent := es.takeWhile fun e => decide (e.day ≤ d)
theorem knownL_len (es : List Ent) (d : Int) : (knownL es d).length ≤ es.length := (List.takeWhile_sublist _).length_le
theorem sl_app0 {α : Type} {E : Enc α} {H : AH} {s : AVal} {xs : List α} {b sz : Nat} (hs : Sl E H s xs) : doApp E.sz E.bytes H (.slice (some (b, 0)) 0 0 E.sz) s = if xs.length = 0 then some (.slice (some (b, 0)) 0 0 E.sz, H) else some (.slice (some (H.next, 0)) xs.length xs.length E.sz, H.alloc (.cells true (E.all xs))) := by
  obtain ⟨a, c, sz', rfl, _, hb, _⟩ := hs.shape
  unfold doApp
  rw [hs.src]
  simp only
  rw [if_pos ⟨by simpa using hb, trivial⟩]
  simp

noncomputable def g64 : Spec
  | [s], H => (slOf entE H s).bind fun xs => some (cloneSl entE H s (xs))
  | _, _ => none
theorem g64_eq {s : AVal} {H : AH} {xs : _} (hs : Sl entE H s xs) : g64 [s] H = some (cloneSl entE H s (xs)) := by
  simp only [g64, slOf_eq.2 hs, Option.bind_some]
noncomputable def T64 : BT := .e
theorem T64_ok : TOk Tryz.prog T64.get := bt_e
theorem run64 (H : AH) (hH : HOk H) (s : AVal) (xs : List Ent) (hs : Sl entE H s xs) : Run T64.get [.code a64.body] (entry .e 0 [s]) H (retK a64.results (fun v K => Cln entE H.next K v s (xs)) (fun _ _ => False)) := by
  obtain ⟨a, c, sz, rfl, hc, hl, ha, hsz⟩ := hs.shape
  cases a with
  | none =>
    rw [ha rfl]
    simp [a64, run_nil, aeq, eq1, Cln]
  | some p =>
    have hs2 : Sl entE (H.alloc (.cells true [])) (.slice (some p) xs.length c sz) xs := hs.keep hH fun b hb => AH.get_alloc_lt hb
    have := sl_app0 (b := H.next) (sz := sz) hs2
    rw [entE_sz, entE_bytes] at this
    simp [a64, run_nil, aeq, eq1, fillIn, reps, pairs, this]
    by_cases hx : xs = []
    · subst hx
      simp [run_nil]
      exact .inr ⟨by simp, H.next, 0, rfl, by simp, fun _ => rfl, Nat.le_refl _, Nat.lt_succ_self _, AH.get_alloc_new⟩
    · have hn : xs.length ≠ 0 := fun e => hx (List.length_eq_zero_iff.1 e)
      simp [run_nil, hx, hn]
      refine .inr ⟨by simp, H.next + 1, xs.length, rfl, Nat.le_refl _, fun e => absurd e hx, by omega, by simp [AH.next_alloc], ?_⟩
      rw [show H.next + 1 = (H.alloc (.cells true [])).next from rfl, AH.get_alloc_new]
theorem ok64' : ExtOk Tryz.prog 64 g64 := extOk_of T64_ok hmix ok64 fun args H u H2 hH hg => by
  unfold g64 at hg
  split at hg <;> try (cases hg; done)
  rename_i s
  obtain ⟨xs, hs, hg⟩ := Option.bind_eq_some_iff.1 hg
  rw [slOf_eq] at hs
  have hrun := run64 (H.ro noS) hH.ro s xs hs.ro
  try dsimp only at hg
  injection hg with hg
  have h1 := congrArg Prod.fst hg
  have h2 := congrArg Prod.snd hg
  dsimp only at h1 h2
  subst h1 h2
  exact ⟨noS, rfl, _, hrun, fun v K h => gives_clone hH h⟩

theorem knownL_take {es : List Ent} {d : Int} : ∀ {i : Nat}, (∀ e ∈ es.take i, e.day ≤ d) → (h : i < es.length) → ¬ es[i].day ≤ d → knownL es d = es.take i := by
  induction es with
  | nil => intro i _ h; cases h
  | cons e es ih =>
    intro i hp h hn
    cases i with
    | zero => simp only [List.getElem_cons_zero] at hn; simp [knownL, hn]
    | succ i =>
      have he : e.day ≤ d := hp e (by simp)
      have := ih (i := i) (fun x hx => hp x (by simp [hx])) (by simpa using h) (by simpa using hn)
      unfold knownL at this ⊢
      simp [List.takeWhile_cons, he, this]
theorem knownL_all {es : List Ent} {d : Int} (hp : ∀ e ∈ es, e.day ≤ d) : knownL es d = es := by
  induction es with
  | nil => rfl
  | cons e es ih =>
    have he : e.day ≤ d := hp e (by simp)
    have := ih fun x hx => hp x (by simp [hx])
    unfold knownL at this ⊢
    simp [List.takeWhile_cons, he, this]
/-- A clone made later is one made now. -/
theorem cln_some {α : Type} {E : Enc α} {n : Nat} {H : AH} {p q : Nat × Nat} {m c z m' c' z' : Nat} {xs : List α} (hn : n ≤ H.next) : Cln E n (cloneSl E H (.slice (some p) m c z) xs).2 (cloneSl E H (.slice (some p) m c z) xs).1 (.slice (some q) m' c' z') xs := by
  refine .inr ⟨by simp, H.next, xs.length, rfl, Nat.le_refl _, fun e => by rw [e]; rfl, hn, Nat.lt_succ_self _, AH.get_alloc_new⟩
theorem cln_none {α : Type} {E : Enc α} {n : Nat} {H : AH} {m c z m' c' z' : Nat} {xs : List α} : Cln E n (cloneSl E H (.slice none m c z) xs).2 (cloneSl E H (.slice none m c z) xs).1 (.slice none m' c' z') xs :=
  .inl ⟨⟨_, _, _, rfl⟩, 0, rfl⟩
noncomputable def g20 : Spec
  | [s, .int .i64 d], H => (slOf entE H s).bind fun es => some (cloneSl entE H s (knownL es d))
  | _, _ => none
theorem g20_eq {s : AVal} {d : Int} {H : AH} {es : _} (hs : Sl entE H s es) : g20 [s, .int .i64 d] H = some (cloneSl entE H s (knownL es d)) := by
  simp only [g20, slOf_eq.2 hs, Option.bind_some]
noncomputable def T20 : BT := (.n 64 (.ext g64) .e .e)
theorem T20_ok : TOk Tryz.prog T20.get := (bt_n ok64' bt_e bt_e)
theorem T20x64 : T20.get 64 = some (.ext g64) := rfl
theorem run20 (H : AH) (hH : HOk H) (s : AVal) (es : List Ent) (hs : Sl entE H s es) (d : Int) : Run T20.get [.code a20.body] (entry .e 0 [s, .int .i64 d]) H (retK a20.results (fun v K => Cln entE H.next K v s (knownL es d)) (fun _ _ => False)) := by
  obtain ⟨a, c, sz, rfl, hc, hl, ha, hsz⟩ := hs.shape
  rw [entE_bytes] at hl
  simp [a20, run_nil]
  refine run_loop (fun (i : Nat) ρ H' => H.next ≤ H'.next ∧ HOk H' ∧ (∀ b, b < H.next → H'.get b = H.get b) ∧ ρ.at 0 = .slice a es.length c sz ∧ ρ.at 1 = .int .i64 d ∧ ρ.at 7 = .slice a es.length c sz ∧ ρ.at 8 = .int .i64 es.length ∧ ρ.at 9 = .int .i64 i ∧ i ≤ es.length ∧ (∀ e ∈ es.take i, e.day ≤ d)) (fun i => es.length - i) 0 ?_ ?_
  · simp [Tr.at_set, hH]
  rintro i ρ H' ⟨hn, hH', hk, h0, h1, h7, h8, h9, hi, hp⟩ J hJ
  have hs' := hs.keep hH hk
  by_cases hlt : i < es.length
  · obtain ⟨b, o, own, vs, rfl, hg, x, hx, hm, he, c0, c1, c2, c3, c4, c5, c6, c7, c8, c9⟩ := hs'.ent hlt
    obtain rfl : sz = 10 := hsz (by simp)
    have hw := wr_succ (n := i) (by omega)
    have hbn : b < H'.next := hH' b _ hg rfl
    have hne := Nat.ne_of_lt hbn
    by_cases k1 : x.day ≤ d
    · have k1' : ¬ d < x.day := by omega
      simp [run_nil, h0, h1, h7, h8, h9, hlt, hg, he, encE_len, encE_cells, encE_0, encE_g0, encE_1, encE_g1, encE_2, encE_g2, encE_3, encE_g3, encE_4, encE_g4, encE_5, encE_g5, encE_6, encE_g6, encE_7, encE_g7, encE_8, encE_g8, encE_9, encE_g9, k1, k1', hw, get_alloc_set, AH.get_alloc, storeN_new, hne]
      refine hJ (i + 1) _ _ ⟨?_, (hH'.alloc).set ?_, fun b hb => ?_, ?_⟩ ?_
      · simp [AH.next_set, AH.next_alloc]; omega
      · simp [AH.next_alloc]
      · rw [get_alloc_set, if_neg (by omega), hk b hb]
      · refine ⟨?_, ?_, ?_, ?_, ?_, by omega, ?_⟩
        all_goals try (simp [Tr.at_set, h0, h1, h7, h8]; done)
        rw [List.take_succ_eq_append_getElem hlt, hx]
        intro e he
        rcases List.mem_append.1 he with he | he
        · exact hp e he
        · simp only [List.mem_singleton] at he; rw [he]; exact k1
      · omega
    · have k1' : d < x.day := by omega
      have hkn := knownL_take hp hlt (by rw [hx]; exact k1)
      have hic : i ≤ c := by omega
      have hc0 : ¬ c = 0 := by omega
      have hs2 : Sl entE ((H'.alloc (.cells true [.int .i64 0, .int .u8 0, .int .i64 0, .int .i64 0, .int .i64 0, .int .i64 0, .int .i64 0, .int .i64 0, .int .i64 0, .str []])).set H'.next (.cells true (encE x))) (.slice (some (b, o)) i c 10) (es.take i) := by
        refine (hs'.upto hi).keep hH' fun b hb => ?_
        rw [get_alloc_set, if_neg (by omega)]
      simp [run_nil, h0, h1, h7, h8, h9, hlt, hg, he, encE_len, encE_cells, encE_0, encE_g0, encE_1, encE_g1, encE_2, encE_g2, encE_3, encE_g3, encE_4, encE_g4, encE_5, encE_g5, encE_6, encE_g6, encE_7, encE_g7, encE_8, encE_g8, encE_9, encE_g9, k1, k1', hw, get_alloc_set, AH.get_alloc, storeN_new, hne, sliceB, bnd, hic, hc0, T20x64, g64_eq hs2]
      rw [hkn]
      exact cln_some (by simp [AH.next_set, AH.next_alloc]; omega)
  · obtain rfl : i = es.length := by omega
    have hkn : knownL es d = es := knownL_all (by simpa using hp)
    simp [run_nil, h0, h1, h7, h8, h9, T20x64, g64_eq hs', hkn]
    cases a with
    | none => exact cln_none
    | some p => exact cln_some hn
theorem ok20' : ExtOk Tryz.prog 20 g20 := extOk_of T20_ok hmix ok20 fun args H u H2 hH hg => by
  unfold g20 at hg
  split at hg <;> try (cases hg; done)
  rename_i s d
  obtain ⟨es, hs, hg⟩ := Option.bind_eq_some_iff.1 hg
  rw [slOf_eq] at hs
  have hrun := run20 (H.ro noS) hH.ro s es hs.ro d
  try dsimp only at hg
  injection hg with hg
  have h1 := congrArg Prod.fst hg
  have h2 := congrArg Prod.snd hg
  dsimp only at h1 h2
  subst h1 h2
  exact ⟨noS, rfl, _, hrun, fun v K h => gives_clone hH h⟩

noncomputable def g22 : Spec
  | [s, .int .i64 d], H => (slOf entE H s).bind fun es => some (newSl entE H (knownL es d))
  | _, _ => none
theorem g22_eq {s : AVal} {d : Int} {H : AH} {es : _} (hs : Sl entE H s es) : g22 [s, .int .i64 d] H = some (newSl entE H (knownL es d)) := by
  simp only [g22, slOf_eq.2 hs, Option.bind_some]
noncomputable def T22 : BT := .e
theorem T22_ok : TOk Tryz.prog T22.get := bt_e
theorem run22 (H : AH) (hH : HOk H) (s : AVal) (es : List Ent) (hs : Sl entE H s es) (d : Int) : Run T22.get [.code a22.body] (entry .e 0 [s, .int .i64 d]) H (retK a22.results (fun v K => Own entE H.next K v (knownL es d)) (fun _ _ => False)) := by
  obtain ⟨a, c, sz, rfl, hc, hl, ha, hsz⟩ := hs.shape
  rw [entE_bytes] at hl
  simp [a22, run_nil]
  refine run_loop (fun (i : Nat) ρ H' => H.next ≤ H'.next ∧ HOk H' ∧ (∀ b, b < H.next → H'.get b = H.get b) ∧ ρ.at 0 = .slice a es.length c sz ∧ ρ.at 1 = .int .i64 d ∧ Own entE H.next H' (ρ.at 5) (es.take i) ∧ ρ.at 6 = .int .i64 i ∧ i ≤ es.length ∧ (∀ e ∈ es.take i, e.day ≤ d)) (fun i => es.length - i) 0 ?_ ?_
  · simp [Tr.at_set, hH, Own.nil]
  rintro i ρ H' ⟨hn, hH', hk, h0, h1, h5, h6, hi, hp⟩ J hJ
  have hs' := hs.keep hH hk
  by_cases hlt : i < es.length
  · obtain ⟨b, o, own, vs, rfl, hg, x, hx, hm, he, c0, c1, c2, c3, c4, c5, c6, c7, c8, c9⟩ := hs'.ent hlt
    obtain rfl : sz = 10 := hsz (by simp)
    have hw := wr_succ (n := i) (by omega)
    have hbn : b < H'.next := hH' b _ hg rfl
    have hne := Nat.ne_of_lt hbn
    by_cases k1 : x.day ≤ d
    · obtain ⟨v', K, happ, hown, hnx, hlow, hok, _⟩ := own_app (x := x) h5 hn (by rw [List.length_take, entE_bytes]; omega)
      rw [entE_sz, entE_bytes, entE_enc] at happ
      generalize hv5 : ρ.at 5 = v5 at *
      simp [run_nil, h0, h1, h6, hv5, hlt, hg, he, encE_len, encE_cells, encE_0, encE_g0, encE_1, encE_g1, encE_2, encE_g2, encE_3, encE_g3, encE_4, encE_g4, encE_5, encE_g5, encE_6, encE_g6, encE_7, encE_g7, encE_8, encE_g8, encE_9, encE_g9, c0, k1, hw, fillIn, reps, pairs, splice, happ]
      refine hJ (i + 1) _ _ ⟨by omega, hok hH', fun b hb => by rw [hlow b hb, hk b hb], ?_, ?_, ?_, ?_, by omega, ?_⟩ (by omega)
      all_goals try (simp [Tr.at_set, h0, h1]; done)
      · rw [List.take_succ_eq_append_getElem hlt, hx]
        simpa [Tr.at_set] using hown
      · rw [List.take_succ_eq_append_getElem hlt, hx]
        intro e he
        rcases List.mem_append.1 he with he | he
        · exact hp e he
        · simp only [List.mem_singleton] at he; rw [he]; exact k1
    · have hkn := knownL_take hp hlt (by rw [hx]; exact k1)
      simp [run_nil, h0, h1, h6, hlt, hg, c0, k1, hkn, h5]
  · obtain rfl : i = es.length := by omega
    have hkn : knownL es d = es := knownL_all (by simpa using hp)
    rw [List.take_length] at h5
    simp [run_nil, h0, h1, h6, hkn, h5]
theorem ok22' : ExtOk Tryz.prog 22 g22 := extOk_of T22_ok hmix ok22 fun args H u H2 hH hg => by
  unfold g22 at hg
  split at hg <;> try (cases hg; done)
  rename_i s d
  obtain ⟨es, hs, hg⟩ := Option.bind_eq_some_iff.1 hg
  rw [slOf_eq] at hs
  have hrun := run22 (H.ro noS) hH.ro s es hs.ro d
  try dsimp only at hg
  injection hg with hg
  have h1 := congrArg Prod.fst hg
  have h2 := congrArg Prod.snd hg
  dsimp only at h1 h2
  subst h1 h2
  exact ⟨noS, rfl, _, hrun, fun v K h => gives_new hH h⟩

def eqE : KT := .agg [.int, .int, .int, .int, .int, .int, .int, .int, .int, .str]
theorem bytesEq_iff : ∀ (a b : List Nat), bytesEq a b = decide (a = b)
  | [], [] => by simp [bytesEq]
  | [], _ :: _ => by simp [bytesEq]
  | _ :: _, [] => by simp [bytesEq]
  | a :: x, b :: y => by
    have : Nat.beq a b = decide (a = b) := by rw [Bool.eq_iff_iff, Nat.beq_eq]; simp
    simp only [bytesEq, this, bytesEq_iff x y, List.cons.injEq, Bool.decide_and]
theorem aeqE (x y : Ent) : aeq (.agg [.int, .int, .int, .int, .int, .int, .int, .int, .int, .str]) (.agg (encE x)) (.agg (encE y)) = some (decide (x = y)) := by
  cases x; cases y
  simp only [aeq, encE, eqs, eq1, if_true, bytesEq_iff]
  simp only [Ent.mk.injEq, Bool.decide_and]
  (repeat' split) <;> simp_all
theorem run_sameE (es fs : List Ent) : (∀ i (h : i < es.length) (k : i < fs.length), es[i] = fs[i]) → es.length = fs.length → es = fs := fun h l => List.ext_getElem l fun i h1 h2 => h i h1 h2
noncomputable def g21 : Spec
  | [s, t], H => (slOf entE H s).bind fun xs => (slOf entE H t).bind fun ys => some (.bool (decide (xs = ys)), H)
  | _, _ => none
theorem g21_eq {s : AVal} {t : AVal} {H : AH} {xs : _} (hs : Sl entE H s xs) {ys : _} (ht : Sl entE H t ys) : g21 [s, t] H = some (.bool (decide (xs = ys)), H) := by
  simp only [g21, slOf_eq.2 hs, Option.bind_some, slOf_eq.2 ht, Option.bind_some]
noncomputable def T21 : BT := .e
theorem T21_ok : TOk Tryz.prog T21.get := bt_e
theorem run21 (H : AH) (hH : HOk H) (s : AVal) (xs : List Ent) (hs : Sl entE H s xs) (t : AVal) (ys : List Ent) (ht : Sl entE H t ys) : Run T21.get [.code a21.body] (entry .e 0 [s, t]) H (retK a21.results (fun v K => v = .bool (decide (xs = ys))) (fun _ _ => False)) := by
  obtain ⟨a, c, sz, rfl, hc, hl, ha, hsz⟩ := hs.shape
  obtain ⟨a', c', sz', rfl, hc', hl', ha', hsz'⟩ := ht.shape
  rw [entE_bytes] at hl hl'
  by_cases hn : xs.length ≠ ys.length
  · have : ¬ xs = ys := fun e => hn (by rw [e])
    simp [a21, run_nil, hn, this]
  have hn : xs.length = ys.length := by omega
  simp [a21, run_nil, hn]
  refine run_loop (fun (i : Nat) ρ H' => H' = H ∧ ρ.at 0 = .slice a xs.length c sz ∧ ρ.at 1 = .slice a' ys.length c' sz' ∧ ρ.at 5 = .int .i64 i ∧ i ≤ xs.length ∧ xs.take i = ys.take i) (fun i => xs.length - i) 0 ?_ ?_
  · simp [Tr.at_set, hn]
  rintro i ρ H' ⟨rfl, h0, h1, h5, hi, hp⟩ J hJ
  by_cases hlt : i < xs.length
  · have hlt' : i < ys.length := by omega
    obtain ⟨b, o, own, vs, rfl, hg, x, hx, hm, he, _⟩ := hs.ent hlt
    obtain ⟨b', o', own', vs', rfl, hg', y, hy, hm', he', _⟩ := ht.ent hlt'
    have hw := wr_succ (n := i) (by omega)
    by_cases k1 : x = y
    · simp [run_nil, h0, h1, h5, hlt, hlt', hg, he, hg', he', encE_len, encE_cells, encE_0, encE_g0, encE_1, encE_g1, encE_2, encE_g2, encE_3, encE_g3, encE_4, encE_g4, encE_5, encE_g5, encE_6, encE_g6, encE_7, encE_g7, encE_8, encE_g8, encE_9, encE_g9, aeqE, k1, hw]
      refine hJ (i + 1) _ _ ⟨rfl, ?_, ?_, ?_, by omega, ?_⟩ (by omega)
      all_goals try (simp [Tr.at_set, h0, h1]; done)
      rw [List.take_succ_eq_append_getElem hlt, List.take_succ_eq_append_getElem hlt', hp, hx, hy, k1]
    · have : ¬ xs = ys := fun e => k1 (by subst e; rw [← hx, ← hy])
      simp [run_nil, h0, h1, h5, hlt, hlt', hg, he, hg', he', encE_len, encE_cells, encE_0, encE_g0, encE_1, encE_g1, encE_2, encE_g2, encE_3, encE_g3, encE_4, encE_g4, encE_5, encE_g5, encE_6, encE_g6, encE_7, encE_g7, encE_8, encE_g8, encE_9, encE_g9, aeqE, k1, this]
  · obtain rfl : i = xs.length := by omega
    have : xs = ys := by rw [List.take_length, hn, List.take_length] at hp; exact hp
    simp [run_nil, h0, h1, h5, this]
theorem ok21' : ExtOk Tryz.prog 21 g21 := extOk_of T21_ok hmix ok21 fun args H u H2 hH hg => by
  unfold g21 at hg
  split at hg <;> try (cases hg; done)
  rename_i s t
  obtain ⟨xs, hs, hg⟩ := Option.bind_eq_some_iff.1 hg
  rw [slOf_eq] at hs
  obtain ⟨ys, ht, hg⟩ := Option.bind_eq_some_iff.1 hg
  rw [slOf_eq] at ht
  have hrun := run21 (H.ro noS) hH.ro s xs hs.ro t ys ht.ro
  try dsimp only at hg
  injection hg with hg
  injection hg with h1 h2
  subst h1 h2
  exact ⟨noS, rfl, _, hrun, fun v K h => by subst h; exact gives_same hH (VSub.of_flat _ (by first | rfl | (simp [AVal.flat, flats]; done) | (split <;> rfl)))⟩
end Rst
