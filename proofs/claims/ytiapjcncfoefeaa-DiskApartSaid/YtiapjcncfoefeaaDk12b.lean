/- Walks: the disk: cuts and crashes. -/
import Derived.Test.YtiapjcncfoefeaaDk12
set_option linter.unusedSimpArgs false
set_option linter.unusedVariables false
namespace Go.Proofs.Ytiapjcncfoefeaa
open VX
set_option maxRecDepth 100000
set_option maxHeartbeats 4000000

abbrev intsA (l : List Nat) : Nat → A := fun i => .int .i64 (l.getD i 0 : Nat)
/-- The first one that is v or more; below 0: none. -/
def idxS (v : Int) : List Nat → Nat → Int
  | [], _ => -1
  | a :: l, i => if v ≤ a then i else idxS v l (i + 1)
theorem idxS_at (v : Int) : ∀ (l : List Nat) (i : Nat), (idxS v l i = -1 ∧ ∀ a ∈ l, (a : Int) < v) ∨ (∃ j : Nat, j < l.length ∧ idxS v l i = (i + j : Nat) ∧ v ≤ (l.getD j 0 : Nat) ∧ ∀ q, q < j → ((l.getD q 0 : Nat) : Int) < v)
  | [], i => .inl ⟨rfl, by simp⟩
  | a :: l, i => by
    unfold idxS
    by_cases h : v ≤ a
    · rw [if_pos h]
      exact .inr ⟨0, by simp, rfl, by simpa using h, fun q hq => absurd hq (Nat.not_lt_zero _)⟩
    · rw [if_neg h]
      rcases idxS_at v l (i + 1) with ⟨h1, h2⟩ | ⟨j, h1, h2, h3, h4⟩
      · refine .inl ⟨h1, fun b hb => ?_⟩
        rcases List.mem_cons.1 hb with rfl | hb
        · omega
        · exact h2 b hb
      · refine .inr ⟨j + 1, by simpa using h1, by rw [h2]; congr 1; omega, by simpa using h3, fun q hq => ?_⟩
        cases q with
        | zero => simpa using (show (a : Int) < v by omega)
        | succ q => simpa using h4 q (by omega)

theorem cut1_does (a v : Int) : Does Try.prog 23 [.int .i64 a, .ptr 1002 []] [(1002, some (.var (.int .i64 v)))] [] (Is (.bool (decide (v ≤ a))) [(1002, some (.var (.int .i64 v)))]) := by
  refine Does.intro (fn := Try.f23) Try.func23 rfl rfl fun Γ hΓ => ?_
  refine W.run TOK 7 hΓ 1000 ?_
  conv => whnf
  refine ⟨?_, ?_⟩
  repeat' first
    | assumption
    | exact Bool.noConfusion hb
    | exact absurd hb (by decide)
    | (exfalso; omega)
    | (exfalso; simp at hb; done)
    | (refine W.retA TOK rfl ?_; (conv => whnf); refine ⟨rfl, rfl, rfl, rfl, rfl, rfl, ?_, ?_, ?_⟩)
    | (refine W.branch rfl (fun hb => ?_) (fun hb => ?_) <;> ((try simp only [decide_eq_true_eq, decide_eq_false_iff_not, Bool.not_eq_true', Bool.not_eq_false', Int.not_lt, Int.not_le, cond_true, cond_false, reduceCtorEq, Int.toNat_natCast, Int.reduceToNat, addI] at hb); (try replace hb := of_decide_eq_true hb); (try replace hb := of_decide_eq_false hb)))
    | (refine D.branch rfl (fun hb => ?_) (fun hb => ?_) <;> ((try simp only [decide_eq_true_eq, decide_eq_false_iff_not, Bool.not_eq_true', Bool.not_eq_false', Int.not_lt, Int.not_le, cond_true, cond_false, reduceCtorEq, Int.toNat_natCast, Int.reduceToNat, addI] at hb); (try replace hb := of_decide_eq_true hb); (try replace hb := of_decide_eq_false hb)))
    | (refine W.go TOK 7 hΓ 1000 rfl ?_; (conv => whnf); refine ⟨?_, ?_⟩)
    | (refine D.go TOK 7 hΓ 1000 rfl ?_; (conv => whnf); refine ⟨?_, ?_⟩)
    | (refine W.drawn rfl rfl ?_; refine D.run TOK 7 hΓ 1000 ?_; (conv => whnf); refine ⟨?_, ?_⟩)
  all_goals (repeat' apply And.intro)
  all_goals try (first
    | exact trivial
    | exact rfl
    | exact fun _ _ => A.sim.refl _
    | exact A.sim.refl _
    | exact Nat.le_refl _
    | omega
    | exact fun _ _ => trivial
    | exact fun i _ => shift_sim _ _ i
    | exact fun _ h => absurd h (Nat.not_lt_zero _)
    | exact fun i _ => isInt_byteAt _ i
    | (simp only [allP, List.nil_append, List.append_nil, List.cons_append, List.append_eq, and_true, true_and, inr_i64, inr_u8, inr_u64, min_i64, max_i64, min_u64, max_u64, min_u8, max_u8, A.purePL, A.pureP, A.sureP, A.surePL, Int.toNat_natCast, Int.reduceToNat, addI, cHi, cLo, hiN, loN, subO, addO, hasIdx, cond_true, cond_false]; first | done | omega | ((repeat' apply And.intro) <;> first | exact trivial | rfl | omega | decide))
    )

theorem index_does (l : List Nat) (v : Int) (h9 : l.length ≤ 1000000000) : Does Try.prog 24 [.ro 1 l.length (intsA l), .func (.func 23) [] [.ptr 1002 []]] [(1002, some (.var (.int .i64 v)))] [] (Is (.int .i64 (idxS v l 0)) [(1002, some (.var (.int .i64 v)))]) := by
  have hx := idxS_at v l 0
  refine Does.intro (fn := Try.f24) Try.func24 rfl rfl fun Γ hΓ => ?_
  refine W.run TOK 19 hΓ 1000 ?_
  conv => whnf
  refine ⟨by ((repeat' apply And.intro) <;> first | exact trivial | exact rfl), ?_⟩
  refine W.loopA (Nat) (fun i => i ≤ l.length ∧ ∀ q, q < i → ((l.getD q 0 : Nat) : Int) < v) (fun i => l.length - i) (fun i => [(8, .int .i64 i)]) (fun _ => []) [] (0) (⟨Nat.zero_le _, fun q hq => absurd hq (Nat.not_lt_zero _)⟩) ?_
  (conv => whnf); refine ⟨?_, ?_⟩; focus ((conv => whnf); refine ⟨rfl, rfl, rfl, rfl, rfl, rfl, ?_, ?_⟩; iterate 2 (focus ((repeat' apply And.intro) <;> first | exact trivial | (intro i _; rw [Nat.zero_add]; exact A.sim.refl _) | with_reducible exact rfl | exact fun _ _ => A.sim.refl _ | exact A.sim.refl _ | exact rfl | exact Nat.le_refl _ | omega | exact fun i _ => shift_sim _ _ i | exact fun _ _ => trivial | exact fun _ h => absurd h (Nat.not_lt_zero _))))
  rintro i ⟨hi, hq⟩ ih
  by_cases hil : i < l.length
  · by_cases hv : v ≤ (l.getD i 0 : Nat)
    · have e : idxS v l 0 = i := by
        rcases hx with ⟨_, h2⟩ | ⟨j, h1, h2, h3, h4⟩
        · have := h2 (l.getD i 0) (by rw [List.getD_eq_getElem?_getD, List.getElem?_eq_getElem hil]; exact List.getElem_mem hil)
          omega
        · rcases Nat.lt_trichotomy i j with h | h | h
          · have := h4 i h; omega
          · subst h; rw [h2]; simp
          · have := hq j h; omega
      repeat' first
        | assumption
        | exact Bool.noConfusion hb
        | exact absurd hb (by decide)
        | (exfalso; omega)
        | (exfalso; simp at hb; done)
        | exact absurd hv hb
        | (refine W.retA TOK rfl ?_; (conv => whnf); refine ⟨rfl, rfl, rfl, rfl, rfl, rfl, ?_, ?_, ?_⟩)
        | (refine W.branch rfl (fun hb => ?_) (fun hb => ?_) <;> ((try simp only [decide_eq_true_eq, decide_eq_false_iff_not, Bool.not_eq_true', Bool.not_eq_false', Int.not_lt, Int.not_le, cond_true, cond_false, reduceCtorEq, Int.toNat_natCast, Int.reduceToNat, addI] at hb); (try replace hb := of_decide_eq_true hb); (try replace hb := of_decide_eq_false hb)))
        | (refine D.branch rfl (fun hb => ?_) (fun hb => ?_) <;> ((try simp only [decide_eq_true_eq, decide_eq_false_iff_not, Bool.not_eq_true', Bool.not_eq_false', Int.not_lt, Int.not_le, cond_true, cond_false, reduceCtorEq, Int.toNat_natCast, Int.reduceToNat, addI] at hb); (try replace hb := of_decide_eq_true hb); (try replace hb := of_decide_eq_false hb)))
        | ((first | (refine D.callA (cut1_does (l.getD i 0 : Nat) v) rfl rfl rfl rfl hΓ rfl ?_; (conv => whnf); refine ⟨rfl, rfl, rfl, ?_, ?_, ?_, ?_⟩) | (refine W.callA (cut1_does (l.getD i 0 : Nat) v) rfl rfl rfl rfl hΓ rfl ?_; (conv => whnf); refine ⟨rfl, rfl, ?_, ?_, ?_, ?_⟩)); iterate 3 (focus ((repeat' apply And.intro) <;> first | exact trivial | (intro i _; rw [Nat.zero_add]; exact A.sim.refl _) | with_reducible exact rfl | exact fun _ _ => A.sim.refl _ | exact A.sim.refl _ | exact rfl | exact Nat.le_refl _ | omega | exact fun i _ => shift_sim _ _ i | exact fun _ _ => trivial | exact fun _ h => absurd h (Nat.not_lt_zero _))); (conv => whnf))
        | (refine W.go TOK 19 hΓ 1000 rfl ?_; (conv => whnf); refine ⟨?_, ?_⟩)
        | (refine D.go TOK 19 hΓ 1000 rfl ?_; (conv => whnf); refine ⟨?_, ?_⟩)
        | (refine W.drawn rfl rfl ?_; refine D.run TOK 19 hΓ 1000 ?_; (conv => whnf); refine ⟨?_, ?_⟩)
      all_goals (repeat' apply And.intro)
      all_goals try (first
        | exact trivial
        | exact rfl
        | exact fun _ _ => A.sim.refl _
        | exact A.sim.refl _
        | exact Nat.le_refl _
        | omega
        | exact fun _ _ => trivial
        | exact fun i _ => shift_sim _ _ i
        | exact fun _ h => absurd h (Nat.not_lt_zero _)
        | exact fun i _ => isInt_byteAt _ i
        | exact e.symm
        | exact e
        | (simp only [allP, List.nil_append, List.append_nil, List.cons_append, List.append_eq, and_true, true_and, inr_i64, inr_u8, inr_u64, min_i64, max_i64, min_u64, max_u64, min_u8, max_u8, A.purePL, A.pureP, A.sureP, A.surePL, Int.toNat_natCast, Int.reduceToNat, addI, cHi, cLo, hiN, loN, subO, addO, hasIdx, cond_true, cond_false]; first | done | omega | ((repeat' apply And.intro) <;> first | exact trivial | rfl | omega | decide))
        )
    · have hn : ∀ q, q < i + 1 → ((l.getD q 0 : Nat) : Int) < v := fun q hq2 => by
        rcases Nat.lt_or_ge q i with h | h
        · exact hq q h
        · have : q = i := by omega
          subst this
          omega
      repeat' first
        | assumption
        | exact Bool.noConfusion hb
        | exact absurd hb (by decide)
        | (exfalso; omega)
        | (exfalso; simp at hb; done)
        | exact absurd hb hv
        | (refine W.toA (ih (i + 1) ?_ ?_) ?_; rotate_left 2; (conv => whnf); refine ⟨rfl, rfl, rfl, rfl, rfl, rfl, ?_, ?_⟩; iterate 2 (focus ((repeat' apply And.intro) <;> first | exact trivial | (intro i _; rw [Nat.zero_add]; exact A.sim.refl _) | with_reducible exact rfl | exact fun _ _ => A.sim.refl _ | exact A.sim.refl _ | exact rfl | exact Nat.le_refl _ | omega | exact fun i _ => shift_sim _ _ i | exact fun _ _ => trivial | exact fun _ h => absurd h (Nat.not_lt_zero _))))
        | (refine W.retA TOK rfl ?_; (conv => whnf); refine ⟨rfl, rfl, rfl, rfl, rfl, rfl, ?_, ?_, ?_⟩)
        | (refine W.branch rfl (fun hb => ?_) (fun hb => ?_) <;> ((try simp only [decide_eq_true_eq, decide_eq_false_iff_not, Bool.not_eq_true', Bool.not_eq_false', Int.not_lt, Int.not_le, cond_true, cond_false, reduceCtorEq, Int.toNat_natCast, Int.reduceToNat, addI] at hb); (try replace hb := of_decide_eq_true hb); (try replace hb := of_decide_eq_false hb)))
        | (refine D.branch rfl (fun hb => ?_) (fun hb => ?_) <;> ((try simp only [decide_eq_true_eq, decide_eq_false_iff_not, Bool.not_eq_true', Bool.not_eq_false', Int.not_lt, Int.not_le, cond_true, cond_false, reduceCtorEq, Int.toNat_natCast, Int.reduceToNat, addI] at hb); (try replace hb := of_decide_eq_true hb); (try replace hb := of_decide_eq_false hb)))
        | ((first | (refine D.callA (cut1_does (l.getD i 0 : Nat) v) rfl rfl rfl rfl hΓ rfl ?_; (conv => whnf); refine ⟨rfl, rfl, rfl, ?_, ?_, ?_, ?_⟩) | (refine W.callA (cut1_does (l.getD i 0 : Nat) v) rfl rfl rfl rfl hΓ rfl ?_; (conv => whnf); refine ⟨rfl, rfl, ?_, ?_, ?_, ?_⟩)); iterate 3 (focus ((repeat' apply And.intro) <;> first | exact trivial | (intro i _; rw [Nat.zero_add]; exact A.sim.refl _) | with_reducible exact rfl | exact fun _ _ => A.sim.refl _ | exact A.sim.refl _ | exact rfl | exact Nat.le_refl _ | omega | exact fun i _ => shift_sim _ _ i | exact fun _ _ => trivial | exact fun _ h => absurd h (Nat.not_lt_zero _))); (conv => whnf))
        | (refine W.go TOK 19 hΓ 1000 rfl ?_; (conv => whnf); refine ⟨?_, ?_⟩)
        | (refine D.go TOK 19 hΓ 1000 rfl ?_; (conv => whnf); refine ⟨?_, ?_⟩)
        | (refine W.drawn rfl rfl ?_; refine D.run TOK 19 hΓ 1000 ?_; (conv => whnf); refine ⟨?_, ?_⟩)
      all_goals (repeat' apply And.intro)
      all_goals try (first
        | exact trivial
        | exact rfl
        | exact fun _ _ => A.sim.refl _
        | exact A.sim.refl _
        | exact Nat.le_refl _
        | omega
        | exact fun _ _ => trivial
        | exact fun i _ => shift_sim _ _ i
        | exact fun _ h => absurd h (Nat.not_lt_zero _)
        | exact fun i _ => isInt_byteAt _ i
        | exact hn
        | (simp only [allP, List.nil_append, List.append_nil, List.cons_append, List.append_eq, and_true, true_and, inr_i64, inr_u8, inr_u64, min_i64, max_i64, min_u64, max_u64, min_u8, max_u8, A.purePL, A.pureP, A.sureP, A.surePL, Int.toNat_natCast, Int.reduceToNat, addI, cHi, cLo, hiN, loN, subO, addO, hasIdx, cond_true, cond_false]; first | done | omega | ((repeat' apply And.intro) <;> first | exact trivial | rfl | omega | decide))
        )
  · have e : idxS v l 0 = -1 := by
      rcases hx with ⟨h1, _⟩ | ⟨j, h1, h2, h3, h4⟩
      · exact h1
      · have := hq j (by omega); omega
    repeat' first
      | assumption
      | exact Bool.noConfusion hb
      | exact absurd hb (by decide)
      | (exfalso; omega)
      | (exfalso; simp at hb; done)
      | (refine W.retA TOK rfl ?_; (conv => whnf); refine ⟨rfl, rfl, rfl, rfl, rfl, rfl, ?_, ?_, ?_⟩)
      | (refine W.branch rfl (fun hb => ?_) (fun hb => ?_) <;> ((try simp only [decide_eq_true_eq, decide_eq_false_iff_not, Bool.not_eq_true', Bool.not_eq_false', Int.not_lt, Int.not_le, cond_true, cond_false, reduceCtorEq, Int.toNat_natCast, Int.reduceToNat, addI] at hb); (try replace hb := of_decide_eq_true hb); (try replace hb := of_decide_eq_false hb)))
      | (refine D.branch rfl (fun hb => ?_) (fun hb => ?_) <;> ((try simp only [decide_eq_true_eq, decide_eq_false_iff_not, Bool.not_eq_true', Bool.not_eq_false', Int.not_lt, Int.not_le, cond_true, cond_false, reduceCtorEq, Int.toNat_natCast, Int.reduceToNat, addI] at hb); (try replace hb := of_decide_eq_true hb); (try replace hb := of_decide_eq_false hb)))
      | (refine W.go TOK 19 hΓ 1000 rfl ?_; (conv => whnf); refine ⟨?_, ?_⟩)
      | (refine D.go TOK 19 hΓ 1000 rfl ?_; (conv => whnf); refine ⟨?_, ?_⟩)
      | (refine W.drawn rfl rfl ?_; refine D.run TOK 19 hΓ 1000 ?_; (conv => whnf); refine ⟨?_, ?_⟩)
    all_goals (repeat' apply And.intro)
    all_goals try (first
      | exact trivial
      | exact rfl
      | exact fun _ _ => A.sim.refl _
      | exact A.sim.refl _
      | exact Nat.le_refl _
      | omega
      | exact fun _ _ => trivial
      | exact fun i _ => shift_sim _ _ i
      | exact fun _ h => absurd h (Nat.not_lt_zero _)
      | exact fun i _ => isInt_byteAt _ i
      | exact e.symm
      | exact e
      | (simp only [allP, List.nil_append, List.append_nil, List.cons_append, List.append_eq, and_true, true_and, inr_i64, inr_u8, inr_u64, min_i64, max_i64, min_u64, max_u64, min_u8, max_u8, A.purePL, A.pureP, A.sureP, A.surePL, Int.toNat_natCast, Int.reduceToNat, addI, cHi, cLo, hiN, loN, subO, addO, hasIdx, cond_true, cond_false]; first | done | omega | ((repeat' apply And.intro) <;> first | exact trivial | rfl | omega | decide))
      )

theorem set_sim {a : List Nat} {i : Nat} {v : Nat} (hi : i < a.length) {m : Nat} : ∀ k, k < m → (setF (intsA a) i (.int .i64 (v : Nat)) k).sim (intsA (a.set i v) k) := fun k _ => A.sim.of (by
  unfold setF intsA
  by_cases h : k = i
  · subst h
    rw [Nat.beq_refl]
    simp [List.getD_eq_getElem?_getD, hi]
  · rw [nbeq_ne h]
    simp only [cond_false, List.getD_eq_getElem?_getD]
    rw [List.getElem?_set_ne (fun e => h e.symm)])
theorem filt_snoc {v : Int} {l : List Nat} {j : Nat} (hj : j < l.length) : (l.take (j + 1)).filter (fun (a : Nat) => decide ((a : Int) < v)) = (l.take j).filter (fun (a : Nat) => decide ((a : Int) < v)) ++ (if ((l.getD j 0 : Nat) : Int) < v then [l.getD j 0] else []) := by
  rw [List.take_succ_eq_append_getElem hj, List.filter_append]
  congr 1
  have e : l.getD j 0 = l[j] := by simp [List.getD_eq_getElem?_getD, List.getElem?_eq_getElem hj]
  rw [e]
  by_cases h : ((l[j] : Nat) : Int) < v <;> simp [h]
def kept (v : Int) (l : List Nat) (j : Nat) : List Nat := (l.take j).filter (fun (a : Nat) => decide ((a : Int) < v))
theorem kept_le (v : Int) (l : List Nat) (j : Nat) : (kept v l j).length ≤ j := Nat.le_trans (List.length_filter_le _ _) (by rw [List.length_take]; omega)
structure DelJ (v : Int) (l : List Nat) (x : Nat × List Nat) : Prop where
  j : x.1 ≤ l.length
  len : x.2.length = l.length
  front : ∀ k, k < (kept v l x.1).length → x.2.getD k 0 = (kept v l x.1).getD k 0
  back : ∀ k, x.1 ≤ k → x.2.getD k 0 = l.getD k 0
  less : (kept v l x.1).length < x.1
theorem kept_all (v : Int) (l : List Nat) : kept v l l.length = l.filter (fun (a : Nat) => decide ((a : Int) < v)) := by rw [kept, List.take_length]
theorem del_start {v : Int} {l : List Nat} {j : Nat} (hj : j < l.length) (hv : v ≤ (l.getD j 0 : Nat)) (hq : ∀ q, q < j → ((l.getD q 0 : Nat) : Int) < v) : DelJ v l (j + 1, l) ∧ (kept v l (j + 1)).length = j := by
  have h0 : kept v l j = l.take j := by
    rw [kept, List.filter_eq_self]
    intro a ha
    obtain ⟨q, hq1, rfl⟩ := List.getElem_of_mem ha
    have hq2 : q < j := by rw [List.length_take] at hq1; omega
    have := hq q hq2
    rw [List.getD_eq_getElem?_getD, List.getElem?_eq_getElem (by omega)] at this
    simpa using this
  have h1 : kept v l (j + 1) = l.take j := by
    rw [kept, filt_snoc hj, if_neg (by omega), List.append_nil]
    exact h0
  have h2 : (kept v l (j + 1)).length = j := by rw [h1, List.length_take]; omega
  refine ⟨⟨hj, rfl, fun k hk => ?_, fun _ _ => rfl, by rw [h2]; exact Nat.lt_succ_self j⟩, h2⟩
  rw [h1]
  rw [h2] at hk
  simp only [List.getD_eq_getElem?_getD]
  rw [List.getElem?_take_of_lt hk]
theorem del_keep {v : Int} {l : List Nat} {x : Nat × List Nat} (h : DelJ v l x) (hj : x.1 < l.length) (hv : ((l.getD x.1 0 : Nat) : Int) < v) : DelJ v l (x.1 + 1, x.2.set (kept v l x.1).length (l.getD x.1 0)) ∧ (kept v l (x.1 + 1)).length = (kept v l x.1).length + 1 := by
  have e : kept v l (x.1 + 1) = kept v l x.1 ++ [l.getD x.1 0] := by rw [kept, filt_snoc hj, if_pos hv]; rfl
  have e2 : (kept v l (x.1 + 1)).length = (kept v l x.1).length + 1 := by rw [e, List.length_append]; rfl
  refine ⟨⟨hj, by rw [List.length_set]; exact h.len, fun k hk => ?_, fun k hk => ?_, by rw [e2]; have := h.less; simp only; omega⟩, e2⟩
  · rw [e2] at hk
    rw [e]
    simp only [List.getD_eq_getElem?_getD]
    by_cases hk2 : k < (kept v l x.1).length
    · rw [List.getElem?_set_ne (by omega), List.getElem?_append_left hk2]
      have := h.front k hk2
      simpa only [List.getD_eq_getElem?_getD] using this
    · have : k = (kept v l x.1).length := by omega
      subst this
      have hl := h.less
      have hn := h.len
      rw [List.getElem?_set_self (by omega), List.getElem?_append_right (Nat.le_refl _), Nat.sub_self]
      rfl
  · have hl := h.less
    have := h.back k (by simp only at hk; omega)
    simp only [List.getD_eq_getElem?_getD] at this ⊢
    rw [List.getElem?_set_ne (by simp only at hk; omega)]
    exact this
theorem del_drop {v : Int} {l : List Nat} {x : Nat × List Nat} (h : DelJ v l x) (hj : x.1 < l.length) (hv : ¬ ((l.getD x.1 0 : Nat) : Int) < v) : DelJ v l (x.1 + 1, x.2) ∧ (kept v l (x.1 + 1)).length = (kept v l x.1).length := by
  have e : kept v l (x.1 + 1) = kept v l x.1 := by rw [kept, filt_snoc hj, if_neg hv, List.append_nil]; rfl
  refine ⟨⟨hj, h.len, fun k hk => ?_, fun k hk => h.back k (by simp only at hk; omega), by rw [e]; have := h.less; simp only; omega⟩, by rw [e]⟩
  simp only at hk ⊢
  rw [e] at hk ⊢
  exact h.front k hk
theorem del_end {v : Int} {l : List Nat} {x : Nat × List Nat} (h : DelJ v l x) (hj : x.1 = l.length) (z : A) : ∀ k, k < (l.filter (fun (a : Nat) => decide ((a : Int) < v))).length → (spliceF (intsA x.2) (kept v l x.1).length (l.length - (kept v l x.1).length) (fun _ => z) k).sim (intsA (l.filter (fun (a : Nat) => decide ((a : Int) < v))) k) := fun k hk => A.sim.of (by
  have e : kept v l x.1 = l.filter (fun (a : Nat) => decide ((a : Int) < v)) := by rw [hj, kept_all]
  rw [spliceF_at, if_neg (by rw [e]; omega)]
  unfold intsA
  rw [h.front k (by rw [e]; exact hk), e])

theorem delete_does (l : List Nat) (v : Int) (h9 : l.length ≤ 1000000000) : Does Try.prog 22 [.own 1 1001 0 l.length, .func (.func 23) [] [.ptr 1002 []]] [(1001, some (.arr 1 l.length (intsA l))), (1002, some (.var (.int .i64 v)))] []
    (Is (.own 1 1001 0 (l.filter (fun (a : Nat) => decide ((a : Int) < v))).length) [(1001, some (.arr 1 (l.filter (fun (a : Nat) => decide ((a : Int) < v))).length (intsA (l.filter (fun (a : Nat) => decide ((a : Int) < v)))))), (1002, some (.var (.int .i64 v)))]) := by
  rcases idxS_at v l 0 with ⟨e, h2⟩ | ⟨j, h1, e, h3, h4⟩
  · have hx := index_does l v h9
    rw [e] at hx
    have hf : l.filter (fun (a : Nat) => decide ((a : Int) < v)) = l := List.filter_eq_self.2 (fun a ha => decide_eq_true (h2 a ha))
    rw [hf]
    refine Does.intro (fn := Try.f22) Try.func22 rfl rfl fun Γ hΓ => ?_
    refine W.run TOK 42 hΓ 1000 ?_
    conv => whnf
    refine ⟨?_, ?_⟩
    repeat' first
      | assumption
      | exact Bool.noConfusion hb
      | exact absurd hb (by decide)
      | (exfalso; omega)
      | (exfalso; simp at hb; done)
      | (refine W.retA TOK rfl ?_; (conv => whnf); refine ⟨rfl, rfl, rfl, rfl, rfl, rfl, ?_, ?_, ?_⟩)
      | (refine W.branch rfl (fun hb => ?_) (fun hb => ?_) <;> ((try simp only [decide_eq_true_eq, decide_eq_false_iff_not, Bool.not_eq_true', Bool.not_eq_false', Int.not_lt, Int.not_le, cond_true, cond_false, reduceCtorEq, Int.toNat_natCast, Int.reduceToNat, addI] at hb); (try replace hb := of_decide_eq_true hb); (try replace hb := of_decide_eq_false hb)))
      | (refine D.branch rfl (fun hb => ?_) (fun hb => ?_) <;> ((try simp only [decide_eq_true_eq, decide_eq_false_iff_not, Bool.not_eq_true', Bool.not_eq_false', Int.not_lt, Int.not_le, cond_true, cond_false, reduceCtorEq, Int.toNat_natCast, Int.reduceToNat, addI] at hb); (try replace hb := of_decide_eq_true hb); (try replace hb := of_decide_eq_false hb)))
      | ((first | (refine D.callA (hx) rfl rfl rfl rfl hΓ rfl ?_; (conv => whnf); refine ⟨rfl, rfl, rfl, ?_, ?_, ?_, ?_⟩) | (refine W.callA (hx) rfl rfl rfl rfl hΓ rfl ?_; (conv => whnf); refine ⟨rfl, rfl, ?_, ?_, ?_, ?_⟩)); iterate 3 (focus ((repeat' apply And.intro) <;> first | exact trivial | (intro i _; rw [Nat.zero_add]; exact A.sim.refl _) | with_reducible exact rfl | exact fun _ _ => A.sim.refl _ | exact A.sim.refl _ | exact rfl | exact Nat.le_refl _ | omega | exact fun i _ => shift_sim _ _ i | exact fun _ _ => trivial | exact fun _ h => absurd h (Nat.not_lt_zero _))); (conv => whnf))
      | (refine W.go TOK 42 hΓ 1000 rfl ?_; (conv => whnf); refine ⟨?_, ?_⟩)
      | (refine D.go TOK 42 hΓ 1000 rfl ?_; (conv => whnf); refine ⟨?_, ?_⟩)
      | (refine W.drawn rfl rfl ?_; refine D.run TOK 42 hΓ 1000 ?_; (conv => whnf); refine ⟨?_, ?_⟩)
    all_goals (repeat' apply And.intro)
    all_goals try (first
      | exact trivial
      | exact rfl
      | exact fun _ _ => A.sim.refl _
      | exact A.sim.refl _
      | exact Nat.le_refl _
      | omega
      | exact fun _ _ => trivial
      | exact fun i _ => shift_sim _ _ i
      | exact fun _ h => absurd h (Nat.not_lt_zero _)
      | exact fun i _ => isInt_byteAt _ i
      | (simp only [allP, List.nil_append, List.append_nil, List.cons_append, List.append_eq, and_true, true_and, inr_i64, inr_u8, inr_u64, min_i64, max_i64, min_u64, max_u64, min_u8, max_u8, A.purePL, A.pureP, A.sureP, A.surePL, Int.toNat_natCast, Int.reduceToNat, addI, cHi, cLo, hiN, loN, subO, addO, hasIdx, cond_true, cond_false]; first | done | omega | ((repeat' apply And.intro) <;> first | exact trivial | rfl | omega | decide))
      )
  · have hx := index_does l v h9
    rw [e, Nat.zero_add] at hx
    have hst := del_start h1 h3 h4
    refine Does.intro (fn := Try.f22) Try.func22 rfl rfl fun Γ hΓ => ?_
    refine W.run TOK 42 hΓ 1000 ?_
    conv => whnf
    refine ⟨?_, ?_⟩
    repeat' first
      | assumption
      | exact Bool.noConfusion hb
      | exact absurd hb (by decide)
      | (exfalso; omega)
      | (exfalso; simp at hb; done)
      | (refine W.branch rfl (fun hb => ?_) (fun hb => ?_) <;> ((try simp only [decide_eq_true_eq, decide_eq_false_iff_not, Bool.not_eq_true', Bool.not_eq_false', Int.not_lt, Int.not_le, cond_true, cond_false, reduceCtorEq, Int.toNat_natCast, Int.reduceToNat, addI] at hb); (try replace hb := of_decide_eq_true hb); (try replace hb := of_decide_eq_false hb)))
      | (refine D.branch rfl (fun hb => ?_) (fun hb => ?_) <;> ((try simp only [decide_eq_true_eq, decide_eq_false_iff_not, Bool.not_eq_true', Bool.not_eq_false', Int.not_lt, Int.not_le, cond_true, cond_false, reduceCtorEq, Int.toNat_natCast, Int.reduceToNat, addI] at hb); (try replace hb := of_decide_eq_true hb); (try replace hb := of_decide_eq_false hb)))
      | ((first | (refine D.callA (hx) rfl rfl rfl rfl hΓ rfl ?_; (conv => whnf); refine ⟨rfl, rfl, rfl, ?_, ?_, ?_, ?_⟩) | (refine W.callA (hx) rfl rfl rfl rfl hΓ rfl ?_; (conv => whnf); refine ⟨rfl, rfl, ?_, ?_, ?_, ?_⟩)); iterate 3 (focus ((repeat' apply And.intro) <;> first | exact trivial | (intro i _; rw [Nat.zero_add]; exact A.sim.refl _) | with_reducible exact rfl | exact fun _ _ => A.sim.refl _ | exact A.sim.refl _ | exact rfl | exact Nat.le_refl _ | omega | exact fun i _ => shift_sim _ _ i | exact fun _ _ => trivial | exact fun _ h => absurd h (Nat.not_lt_zero _))); (conv => whnf))
      | (refine W.go TOK 42 hΓ 1000 rfl ?_; (conv => whnf); refine ⟨?_, ?_⟩)
      | (refine D.go TOK 42 hΓ 1000 rfl ?_; (conv => whnf); refine ⟨?_, ?_⟩)
      | (refine W.drawn rfl rfl ?_; refine D.run TOK 42 hΓ 1000 ?_; (conv => whnf); refine ⟨?_, ?_⟩)
    all_goals (repeat' apply And.intro)
    all_goals try (first
      | exact trivial
      | exact rfl
      | exact fun _ _ => A.sim.refl _
      | exact A.sim.refl _
      | exact Nat.le_refl _
      | omega
      | exact fun _ _ => trivial
      | exact fun i _ => shift_sim _ _ i
      | exact fun _ h => absurd h (Nat.not_lt_zero _)
      | exact fun i _ => isInt_byteAt _ i
      | (simp only [allP, List.nil_append, List.append_nil, List.cons_append, List.append_eq, and_true, true_and, inr_i64, inr_u8, inr_u64, min_i64, max_i64, min_u64, max_u64, min_u8, max_u8, A.purePL, A.pureP, A.sureP, A.surePL, Int.toNat_natCast, Int.reduceToNat, addI, cHi, cLo, hiN, loN, subO, addO, hasIdx, cond_true, cond_false]; first | done | omega | ((repeat' apply And.intro) <;> first | exact trivial | rfl | omega | decide))
      )
    refine W.loopA (Nat × List Nat) (DelJ v l) (fun x => l.length - x.1) (fun x => [(5, .int .i64 ((kept v l x.1).length : Nat)), (6, .int .i64 (x.1 : Nat))]) (fun x => [(1001, some (.arr 1 l.length (intsA x.2)))]) [] ((j + 1, l)) (hst.1) ?_
    (conv => whnf); refine ⟨?_, ?_⟩; focus ((conv => whnf); refine ⟨rfl, rfl, rfl, rfl, rfl, rfl, ?_, ?_⟩; iterate 2 (focus ((repeat' apply And.intro) <;> first | exact trivial | (intro i _; rw [Nat.zero_add]; exact A.sim.refl _) | with_reducible exact rfl | exact fun _ _ => A.sim.refl _ | exact A.sim.refl _ | exact rfl | exact Nat.le_refl _ | omega | exact fun i _ => shift_sim _ _ i | exact fun _ _ => trivial | exact fun _ h => absurd h (Nat.not_lt_zero _) | exact congrArg _ hst.2.symm | (rw [hst.2]) | (show (j : Int) = ((kept v l (j + 1)).length : Nat); rw [hst.2]))))
    rintro x hJ ih
    have hlen := hJ.len
    have hless := hJ.less
    have hjl := hJ.j
    by_cases hjn : x.1 < l.length
    · have hb0 := hJ.back x.1 (Nat.le_refl _)
      by_cases hv : ((l.getD x.1 0 : Nat) : Int) < v
      · have hk := del_keep hJ hjn hv
        rw [← hb0] at hk
        have hk2 : ((kept v l (x.1 + 1)).length : Int) = ((kept v l x.1).length : Int) + 1 := by rw [hk.2]; rfl
        rw [← hb0] at hv
        repeat' first
          | assumption
          | exact Bool.noConfusion hb
          | exact absurd hb (by decide)
          | (exfalso; omega)
          | (exfalso; simp at hb; done)
          | (refine W.clear TOK (nt := 42) hΓ rfl rfl rfl rfl rfl rfl rfl rfl rfl rfl rfl ?_ ?_)
          | (refine W.toA (ih (x.1 + 1, x.2.set (kept v l x.1).length (x.2.getD x.1 0)) ?_ ?_) ?_; rotate_left 2; (conv => whnf); refine ⟨rfl, rfl, rfl, rfl, rfl, rfl, ?_, ?_⟩; iterate 2 (focus ((repeat' apply And.intro) <;> first | exact trivial | (intro i _; rw [Nat.zero_add]; exact A.sim.refl _) | with_reducible exact rfl | exact fun _ _ => A.sim.refl _ | exact A.sim.refl _ | exact rfl | exact Nat.le_refl _ | omega | exact fun i _ => shift_sim _ _ i | exact fun _ _ => trivial | exact fun _ h => absurd h (Nat.not_lt_zero _) | exact set_sim (a := x.2) (i := (kept v l x.1).length) (v := x.2.getD x.1 0) (by omega) | exact hk2.symm)))
          | (refine W.branch rfl (fun hb => ?_) (fun hb => ?_) <;> ((try simp only [decide_eq_true_eq, decide_eq_false_iff_not, Bool.not_eq_true', Bool.not_eq_false', Int.not_lt, Int.not_le, cond_true, cond_false, reduceCtorEq, Int.toNat_natCast, Int.reduceToNat, addI] at hb); (try replace hb := of_decide_eq_true hb); (try replace hb := of_decide_eq_false hb)))
          | (refine D.branch rfl (fun hb => ?_) (fun hb => ?_) <;> ((try simp only [decide_eq_true_eq, decide_eq_false_iff_not, Bool.not_eq_true', Bool.not_eq_false', Int.not_lt, Int.not_le, cond_true, cond_false, reduceCtorEq, Int.toNat_natCast, Int.reduceToNat, addI] at hb); (try replace hb := of_decide_eq_true hb); (try replace hb := of_decide_eq_false hb)))
          | ((first | (refine D.callA (cut1_does (x.2.getD x.1 0 : Nat) v) rfl rfl rfl rfl hΓ rfl ?_; (conv => whnf); refine ⟨rfl, rfl, rfl, ?_, ?_, ?_, ?_⟩) | (refine W.callA (cut1_does (x.2.getD x.1 0 : Nat) v) rfl rfl rfl rfl hΓ rfl ?_; (conv => whnf); refine ⟨rfl, rfl, ?_, ?_, ?_, ?_⟩)); iterate 3 (focus ((repeat' apply And.intro) <;> first | exact trivial | (intro i _; rw [Nat.zero_add]; exact A.sim.refl _) | with_reducible exact rfl | exact fun _ _ => A.sim.refl _ | exact A.sim.refl _ | exact rfl | exact Nat.le_refl _ | omega | exact fun i _ => shift_sim _ _ i | exact fun _ _ => trivial | exact fun _ h => absurd h (Nat.not_lt_zero _) | exact set_sim (a := x.2) (i := (kept v l x.1).length) (v := x.2.getD x.1 0) (by omega) | exact hk2.symm)); (conv => whnf))
          | (refine W.go TOK 42 hΓ 1000 rfl ?_; (conv => whnf); refine ⟨?_, ?_⟩)
          | (refine D.go TOK 42 hΓ 1000 rfl ?_; (conv => whnf); refine ⟨?_, ?_⟩)
          | (refine W.drawn rfl rfl ?_; refine D.run TOK 42 hΓ 1000 ?_; (conv => whnf); refine ⟨?_, ?_⟩)
        all_goals (repeat' apply And.intro)
        all_goals try (first
          | exact trivial
          | exact rfl
          | exact fun _ _ => A.sim.refl _
          | exact A.sim.refl _
          | exact Nat.le_refl _
          | omega
          | exact fun _ _ => trivial
          | exact fun i _ => shift_sim _ _ i
          | exact fun _ h => absurd h (Nat.not_lt_zero _)
          | exact fun i _ => isInt_byteAt _ i
          | exact hk.1
          | (simp only [allP, List.nil_append, List.append_nil, List.cons_append, List.append_eq, and_true, true_and, inr_i64, inr_u8, inr_u64, min_i64, max_i64, min_u64, max_u64, min_u8, max_u8, A.purePL, A.pureP, A.sureP, A.surePL, Int.toNat_natCast, Int.reduceToNat, addI, cHi, cLo, hiN, loN, subO, addO, hasIdx, cond_true, cond_false]; first | done | omega | ((repeat' apply And.intro) <;> first | exact trivial | rfl | omega | decide))
          )
      · have hk := del_drop hJ hjn hv
        have hk2 : ((kept v l (x.1 + 1)).length : Int) = ((kept v l x.1).length : Int) := by rw [hk.2]
        rw [← hb0] at hv
        repeat' first
          | assumption
          | exact Bool.noConfusion hb
          | exact absurd hb (by decide)
          | (exfalso; omega)
          | (exfalso; simp at hb; done)
          | (refine W.clear TOK (nt := 42) hΓ rfl rfl rfl rfl rfl rfl rfl rfl rfl rfl rfl ?_ ?_)
          | (refine W.toA (ih (x.1 + 1, x.2) ?_ ?_) ?_; rotate_left 2; (conv => whnf); refine ⟨rfl, rfl, rfl, rfl, rfl, rfl, ?_, ?_⟩; iterate 2 (focus ((repeat' apply And.intro) <;> first | exact trivial | (intro i _; rw [Nat.zero_add]; exact A.sim.refl _) | with_reducible exact rfl | exact fun _ _ => A.sim.refl _ | exact A.sim.refl _ | exact rfl | exact Nat.le_refl _ | omega | exact fun i _ => shift_sim _ _ i | exact fun _ _ => trivial | exact fun _ h => absurd h (Nat.not_lt_zero _) | exact hk2.symm)))
          | (refine W.branch rfl (fun hb => ?_) (fun hb => ?_) <;> ((try simp only [decide_eq_true_eq, decide_eq_false_iff_not, Bool.not_eq_true', Bool.not_eq_false', Int.not_lt, Int.not_le, cond_true, cond_false, reduceCtorEq, Int.toNat_natCast, Int.reduceToNat, addI] at hb); (try replace hb := of_decide_eq_true hb); (try replace hb := of_decide_eq_false hb)))
          | (refine D.branch rfl (fun hb => ?_) (fun hb => ?_) <;> ((try simp only [decide_eq_true_eq, decide_eq_false_iff_not, Bool.not_eq_true', Bool.not_eq_false', Int.not_lt, Int.not_le, cond_true, cond_false, reduceCtorEq, Int.toNat_natCast, Int.reduceToNat, addI] at hb); (try replace hb := of_decide_eq_true hb); (try replace hb := of_decide_eq_false hb)))
          | ((first | (refine D.callA (cut1_does (x.2.getD x.1 0 : Nat) v) rfl rfl rfl rfl hΓ rfl ?_; (conv => whnf); refine ⟨rfl, rfl, rfl, ?_, ?_, ?_, ?_⟩) | (refine W.callA (cut1_does (x.2.getD x.1 0 : Nat) v) rfl rfl rfl rfl hΓ rfl ?_; (conv => whnf); refine ⟨rfl, rfl, ?_, ?_, ?_, ?_⟩)); iterate 3 (focus ((repeat' apply And.intro) <;> first | exact trivial | (intro i _; rw [Nat.zero_add]; exact A.sim.refl _) | with_reducible exact rfl | exact fun _ _ => A.sim.refl _ | exact A.sim.refl _ | exact rfl | exact Nat.le_refl _ | omega | exact fun i _ => shift_sim _ _ i | exact fun _ _ => trivial | exact fun _ h => absurd h (Nat.not_lt_zero _) | exact hk2.symm)); (conv => whnf))
          | (refine W.go TOK 42 hΓ 1000 rfl ?_; (conv => whnf); refine ⟨?_, ?_⟩)
          | (refine D.go TOK 42 hΓ 1000 rfl ?_; (conv => whnf); refine ⟨?_, ?_⟩)
          | (refine W.drawn rfl rfl ?_; refine D.run TOK 42 hΓ 1000 ?_; (conv => whnf); refine ⟨?_, ?_⟩)
        all_goals (repeat' apply And.intro)
        all_goals try (first
          | exact trivial
          | exact rfl
          | exact fun _ _ => A.sim.refl _
          | exact A.sim.refl _
          | exact Nat.le_refl _
          | omega
          | exact fun _ _ => trivial
          | exact fun i _ => shift_sim _ _ i
          | exact fun _ h => absurd h (Nat.not_lt_zero _)
          | exact fun i _ => isInt_byteAt _ i
          | exact hk.1
          | (simp only [allP, List.nil_append, List.append_nil, List.cons_append, List.append_eq, and_true, true_and, inr_i64, inr_u8, inr_u64, min_i64, max_i64, min_u64, max_u64, min_u8, max_u8, A.purePL, A.pureP, A.sureP, A.surePL, Int.toNat_natCast, Int.reduceToNat, addI, cHi, cLo, hiN, loN, subO, addO, hasIdx, cond_true, cond_false]; first | done | omega | ((repeat' apply And.intro) <;> first | exact trivial | rfl | omega | decide))
          )
    · have he : x.1 = l.length := by omega
      have hke : kept v l x.1 = l.filter (fun (a : Nat) => decide ((a : Int) < v)) := by rw [he, kept_all]
      repeat' first
        | assumption
        | exact Bool.noConfusion hb
        | exact absurd hb (by decide)
        | (exfalso; omega)
        | (exfalso; simp at hb; done)
        | (refine W.clear TOK (nt := 42) hΓ rfl rfl rfl rfl rfl rfl rfl rfl rfl rfl rfl ?_ ?_)
        | (refine W.retA TOK rfl ?_; (conv => whnf); refine ⟨rfl, rfl, rfl, rfl, rfl, rfl, ?_, ?_, ?_⟩)
        | (refine W.branch rfl (fun hb => ?_) (fun hb => ?_) <;> ((try simp only [decide_eq_true_eq, decide_eq_false_iff_not, Bool.not_eq_true', Bool.not_eq_false', Int.not_lt, Int.not_le, cond_true, cond_false, reduceCtorEq, Int.toNat_natCast, Int.reduceToNat, addI] at hb); (try replace hb := of_decide_eq_true hb); (try replace hb := of_decide_eq_false hb)))
        | (refine D.branch rfl (fun hb => ?_) (fun hb => ?_) <;> ((try simp only [decide_eq_true_eq, decide_eq_false_iff_not, Bool.not_eq_true', Bool.not_eq_false', Int.not_lt, Int.not_le, cond_true, cond_false, reduceCtorEq, Int.toNat_natCast, Int.reduceToNat, addI] at hb); (try replace hb := of_decide_eq_true hb); (try replace hb := of_decide_eq_false hb)))
        | ((first | (refine D.callA (cut1_does (x.2.getD x.1 0 : Nat) v) rfl rfl rfl rfl hΓ rfl ?_; (conv => whnf); refine ⟨rfl, rfl, rfl, ?_, ?_, ?_, ?_⟩) | (refine W.callA (cut1_does (x.2.getD x.1 0 : Nat) v) rfl rfl rfl rfl hΓ rfl ?_; (conv => whnf); refine ⟨rfl, rfl, ?_, ?_, ?_, ?_⟩)); iterate 3 (focus ((repeat' apply And.intro) <;> first | exact trivial | (intro i _; rw [Nat.zero_add]; exact A.sim.refl _) | with_reducible exact rfl | exact fun _ _ => A.sim.refl _ | exact A.sim.refl _ | exact rfl | exact Nat.le_refl _ | omega | exact fun i _ => shift_sim _ _ i | exact fun _ _ => trivial | exact fun _ h => absurd h (Nat.not_lt_zero _))); (conv => whnf))
        | (refine W.go TOK 42 hΓ 1000 rfl ?_; (conv => whnf); refine ⟨?_, ?_⟩)
        | (refine D.go TOK 42 hΓ 1000 rfl ?_; (conv => whnf); refine ⟨?_, ?_⟩)
        | (refine W.drawn rfl rfl ?_; refine D.run TOK 42 hΓ 1000 ?_; (conv => whnf); refine ⟨?_, ?_⟩)
      all_goals (repeat' apply And.intro)
      all_goals try (first
        | exact trivial
        | exact rfl
        | exact fun _ _ => A.sim.refl _
        | exact A.sim.refl _
        | exact Nat.le_refl _
        | omega
        | exact fun _ _ => trivial
        | exact fun i _ => shift_sim _ _ i
        | exact fun _ h => absurd h (Nat.not_lt_zero _)
        | exact fun i _ => isInt_byteAt _ i
        | exact congrArg _ hke
        | exact del_end hJ he _
        | exact congrArg List.length hke
        | exact List.length_filter_le _ _
        | (simp only [allP, List.nil_append, List.append_nil, List.cons_append, List.append_eq, and_true, true_and, inr_i64, inr_u8, inr_u64, min_i64, max_i64, min_u64, max_u64, min_u8, max_u8, A.purePL, A.pureP, A.sureP, A.surePL, Int.toNat_natCast, Int.reduceToNat, addI, cHi, cLo, hiN, loN, subO, addO, hasIdx, cond_true, cond_false]; first | done | omega | ((repeat' apply And.intro) <;> first | exact trivial | rfl | omega | decide))
        )

end Go.Proofs.Ytiapjcncfoefeaa
