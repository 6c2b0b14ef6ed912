/- Walks: the reference's order and sorting. -/
import Derived.Test.YtaiaaaeodpgajaaHe20
set_option linter.unusedSimpArgs false
set_option linter.unusedVariables false
namespace Go.Proofs.Ytaiaaaeodpgajaa
open VX
set_option maxRecDepth 100000
set_option maxHeartbeats 4000000
theorem as_does (d : Due) : Does Try.prog 12 [dueA d] [] [] (Is (dueA d) []) := by
  refine Does.intro (fn := Try.f12) Try.func12 rfl rfl fun Γ hΓ => ?_
  refine W.run TOK 12 hΓ 1000 ?_
  conv => whnf
  refine ⟨?_, ?_⟩
  repeat' first
    | assumption
    | exact Bool.noConfusion hb
    | exact absurd hb (by decide)
    | (exfalso; omega)
    | (refine W.retA TOK rfl ?_; (conv => whnf); refine ⟨rfl, rfl, rfl, rfl, rfl, rfl, ?_, ?_, ?_⟩)
    | (refine W.branch rfl (fun hb => ?_) (fun hb => ?_) <;> ((try simp only [decide_eq_true_eq, decide_eq_false_iff_not, Bool.not_eq_true', Bool.not_eq_false', Int.not_lt, Int.not_le, cond_true, cond_false, reduceCtorEq, Int.toNat_natCast, Int.reduceToNat, addI] at hb); (try replace hb := of_decide_eq_true hb); (try replace hb := of_decide_eq_false hb)))
    | (refine D.branch rfl (fun hb => ?_) (fun hb => ?_) <;> ((try simp only [decide_eq_true_eq, decide_eq_false_iff_not, Bool.not_eq_true', Bool.not_eq_false', Int.not_lt, Int.not_le, cond_true, cond_false, reduceCtorEq, Int.toNat_natCast, Int.reduceToNat, addI] at hb); (try replace hb := of_decide_eq_true hb); (try replace hb := of_decide_eq_false hb)))
    | (refine W.go TOK 12 hΓ 1000 rfl ?_; (conv => whnf); refine ⟨?_, ?_⟩)
    | (refine D.go TOK 12 hΓ 1000 rfl ?_; (conv => whnf); refine ⟨?_, ?_⟩)
    | (refine W.drawn rfl rfl ?_; refine D.run TOK 12 hΓ 1000 ?_; (conv => whnf); refine ⟨?_, ?_⟩)
  all_goals (repeat' apply And.intro)
  all_goals try (first
    | exact trivial
    | exact rfl
    | exact fun _ _ => A.sim.refl _
    | exact A.sim.refl _
    | exact Nat.le_refl _
    | omega
    | exact fun _ _ => trivial
    | exact fun i _ => shift_sim _ _ i
    | exact fun _ h => absurd h (Nat.not_lt_zero _)
    | exact fun i _ => isInt_byteAt _ i
    | (simp only [allP, List.nil_append, List.append_nil, List.cons_append, List.append_eq, and_true, true_and, inr_i64, inr_u8, inr_u64, min_i64, max_i64, min_u64, max_u64, min_u8, max_u8, A.purePL, A.pureP, A.sureP, A.surePL, Int.toNat_natCast, Int.reduceToNat, addI, cHi, cLo, hiN, loN, subO, addO, hasIdx, cond_true, cond_false]; first | done | omega | ((repeat' apply And.intro) <;> first | exact trivial | rfl | omega | decide))
    )

theorem rless_does (a b : Due) : Does Try.prog 17 [dueA a, dueA b] [] [] (Is (.bool (lessS a b)) []) := by
  by_cases h1 : a.at_ = b.at_
  · by_cases h2 : a.cls = b.cls
    · by_cases h3 : a.rank = b.rank
      · have e : lessS a b = strLt a.name b.name := Bool.eq_iff_iff.2 ((less_iff a b).trans ⟨fun h => by
          rcases h with h | ⟨_, h | ⟨_, h | ⟨_, h⟩⟩⟩
          · omega
          · omega
          · omega
          · exact h, fun h => .inr ⟨h1, .inr ⟨h2.symm, .inr ⟨h3, h⟩⟩⟩⟩)
        rw [e]
        refine Does.intro (fn := Try.f17) Try.func17 rfl rfl fun Γ hΓ => ?_
        refine W.run TOK 40 hΓ 1000 ?_
        conv => whnf
        refine ⟨?_, ?_⟩
        repeat' first
          | assumption
          | exact Bool.noConfusion hb
          | exact absurd hb (by decide)
          | (exfalso; omega)
          | exact absurd h1 hb
          | exact absurd h2 hb
          | exact absurd h3 hb
          | (refine W.retA TOK rfl ?_; (conv => whnf); refine ⟨rfl, rfl, rfl, rfl, rfl, rfl, ?_, ?_, ?_⟩)
          | (refine W.branch rfl (fun hb => ?_) (fun hb => ?_) <;> ((try simp only [decide_eq_true_eq, decide_eq_false_iff_not, Bool.not_eq_true', Bool.not_eq_false', Int.not_lt, Int.not_le, cond_true, cond_false, reduceCtorEq, Int.toNat_natCast, Int.reduceToNat, addI] at hb); (try replace hb := of_decide_eq_true hb); (try replace hb := of_decide_eq_false hb)))
          | (refine D.branch rfl (fun hb => ?_) (fun hb => ?_) <;> ((try simp only [decide_eq_true_eq, decide_eq_false_iff_not, Bool.not_eq_true', Bool.not_eq_false', Int.not_lt, Int.not_le, cond_true, cond_false, reduceCtorEq, Int.toNat_natCast, Int.reduceToNat, addI] at hb); (try replace hb := of_decide_eq_true hb); (try replace hb := of_decide_eq_false hb)))
          | (refine W.go TOK 40 hΓ 1000 rfl ?_; (conv => whnf); refine ⟨?_, ?_⟩)
          | (refine D.go TOK 40 hΓ 1000 rfl ?_; (conv => whnf); refine ⟨?_, ?_⟩)
          | (refine W.drawn rfl rfl ?_; refine D.run TOK 40 hΓ 1000 ?_; (conv => whnf); refine ⟨?_, ?_⟩)
        all_goals (repeat' apply And.intro)
        all_goals try (first
          | exact trivial
          | exact rfl
          | exact fun _ _ => A.sim.refl _
          | exact A.sim.refl _
          | exact Nat.le_refl _
          | omega
          | exact fun _ _ => trivial
          | exact fun i _ => shift_sim _ _ i
          | exact fun _ h => absurd h (Nat.not_lt_zero _)
          | exact fun i _ => isInt_byteAt _ i
          | (simp only [allP, List.nil_append, List.append_nil, List.cons_append, List.append_eq, and_true, true_and, inr_i64, inr_u8, inr_u64, min_i64, max_i64, min_u64, max_u64, min_u8, max_u8, A.purePL, A.pureP, A.sureP, A.surePL, Int.toNat_natCast, Int.reduceToNat, addI, cHi, cLo, hiN, loN, subO, addO, hasIdx, cond_true, cond_false]; first | done | omega | ((repeat' apply And.intro) <;> first | exact trivial | rfl | omega | decide))
          )
      · have e : lessS a b = decide (a.rank < b.rank) := Bool.eq_iff_iff.2 ((less_iff a b).trans ⟨fun h => by
          rcases h with h | ⟨_, h | ⟨_, h | ⟨h, _⟩⟩⟩
          · omega
          · omega
          · exact decide_eq_true h
          · exact absurd h h3, fun h => .inr ⟨h1, .inr ⟨h2.symm, .inl (of_decide_eq_true h)⟩⟩⟩)
        rw [e]
        refine Does.intro (fn := Try.f17) Try.func17 rfl rfl fun Γ hΓ => ?_
        refine W.run TOK 40 hΓ 1000 ?_
        conv => whnf
        refine ⟨?_, ?_⟩
        repeat' first
          | assumption
          | exact Bool.noConfusion hb
          | exact absurd hb (by decide)
          | (exfalso; omega)
          | exact absurd h1 hb
          | exact absurd h2 hb
          | exact absurd hb h3
          | (refine W.retA TOK rfl ?_; (conv => whnf); refine ⟨rfl, rfl, rfl, rfl, rfl, rfl, ?_, ?_, ?_⟩)
          | (refine W.branch rfl (fun hb => ?_) (fun hb => ?_) <;> ((try simp only [decide_eq_true_eq, decide_eq_false_iff_not, Bool.not_eq_true', Bool.not_eq_false', Int.not_lt, Int.not_le, cond_true, cond_false, reduceCtorEq, Int.toNat_natCast, Int.reduceToNat, addI] at hb); (try replace hb := of_decide_eq_true hb); (try replace hb := of_decide_eq_false hb)))
          | (refine D.branch rfl (fun hb => ?_) (fun hb => ?_) <;> ((try simp only [decide_eq_true_eq, decide_eq_false_iff_not, Bool.not_eq_true', Bool.not_eq_false', Int.not_lt, Int.not_le, cond_true, cond_false, reduceCtorEq, Int.toNat_natCast, Int.reduceToNat, addI] at hb); (try replace hb := of_decide_eq_true hb); (try replace hb := of_decide_eq_false hb)))
          | (refine W.go TOK 40 hΓ 1000 rfl ?_; (conv => whnf); refine ⟨?_, ?_⟩)
          | (refine D.go TOK 40 hΓ 1000 rfl ?_; (conv => whnf); refine ⟨?_, ?_⟩)
          | (refine W.drawn rfl rfl ?_; refine D.run TOK 40 hΓ 1000 ?_; (conv => whnf); refine ⟨?_, ?_⟩)
        all_goals (repeat' apply And.intro)
        all_goals try (first
          | exact trivial
          | exact rfl
          | exact fun _ _ => A.sim.refl _
          | exact A.sim.refl _
          | exact Nat.le_refl _
          | omega
          | exact fun _ _ => trivial
          | exact fun i _ => shift_sim _ _ i
          | exact fun _ h => absurd h (Nat.not_lt_zero _)
          | exact fun i _ => isInt_byteAt _ i
          | (simp only [allP, List.nil_append, List.append_nil, List.cons_append, List.append_eq, and_true, true_and, inr_i64, inr_u8, inr_u64, min_i64, max_i64, min_u64, max_u64, min_u8, max_u8, A.purePL, A.pureP, A.sureP, A.surePL, Int.toNat_natCast, Int.reduceToNat, addI, cHi, cLo, hiN, loN, subO, addO, hasIdx, cond_true, cond_false]; first | done | omega | ((repeat' apply And.intro) <;> first | exact trivial | rfl | omega | decide))
          )
    · have e : lessS a b = decide (b.cls < a.cls) := Bool.eq_iff_iff.2 ((less_iff a b).trans ⟨fun h => by
        rcases h with h | ⟨_, h | ⟨h, _⟩⟩
        · omega
        · exact decide_eq_true h
        · exact absurd h.symm h2, fun h => .inr ⟨h1, .inl (of_decide_eq_true h)⟩⟩)
      rw [e]
      refine Does.intro (fn := Try.f17) Try.func17 rfl rfl fun Γ hΓ => ?_
      refine W.run TOK 40 hΓ 1000 ?_
      conv => whnf
      refine ⟨?_, ?_⟩
      repeat' first
        | assumption
        | exact Bool.noConfusion hb
        | exact absurd hb (by decide)
        | (exfalso; omega)
        | exact absurd h1 hb
        | exact absurd hb h2
        | (refine W.retA TOK rfl ?_; (conv => whnf); refine ⟨rfl, rfl, rfl, rfl, rfl, rfl, ?_, ?_, ?_⟩)
        | (refine W.branch rfl (fun hb => ?_) (fun hb => ?_) <;> ((try simp only [decide_eq_true_eq, decide_eq_false_iff_not, Bool.not_eq_true', Bool.not_eq_false', Int.not_lt, Int.not_le, cond_true, cond_false, reduceCtorEq, Int.toNat_natCast, Int.reduceToNat, addI] at hb); (try replace hb := of_decide_eq_true hb); (try replace hb := of_decide_eq_false hb)))
        | (refine D.branch rfl (fun hb => ?_) (fun hb => ?_) <;> ((try simp only [decide_eq_true_eq, decide_eq_false_iff_not, Bool.not_eq_true', Bool.not_eq_false', Int.not_lt, Int.not_le, cond_true, cond_false, reduceCtorEq, Int.toNat_natCast, Int.reduceToNat, addI] at hb); (try replace hb := of_decide_eq_true hb); (try replace hb := of_decide_eq_false hb)))
        | (refine W.go TOK 40 hΓ 1000 rfl ?_; (conv => whnf); refine ⟨?_, ?_⟩)
        | (refine D.go TOK 40 hΓ 1000 rfl ?_; (conv => whnf); refine ⟨?_, ?_⟩)
        | (refine W.drawn rfl rfl ?_; refine D.run TOK 40 hΓ 1000 ?_; (conv => whnf); refine ⟨?_, ?_⟩)
      all_goals (repeat' apply And.intro)
      all_goals try (first
        | exact trivial
        | exact rfl
        | exact fun _ _ => A.sim.refl _
        | exact A.sim.refl _
        | exact Nat.le_refl _
        | omega
        | exact fun _ _ => trivial
        | exact fun i _ => shift_sim _ _ i
        | exact fun _ h => absurd h (Nat.not_lt_zero _)
        | exact fun i _ => isInt_byteAt _ i
        | (simp only [allP, List.nil_append, List.append_nil, List.cons_append, List.append_eq, and_true, true_and, inr_i64, inr_u8, inr_u64, min_i64, max_i64, min_u64, max_u64, min_u8, max_u8, A.purePL, A.pureP, A.sureP, A.surePL, Int.toNat_natCast, Int.reduceToNat, addI, cHi, cLo, hiN, loN, subO, addO, hasIdx, cond_true, cond_false]; first | done | omega | ((repeat' apply And.intro) <;> first | exact trivial | rfl | omega | decide))
        )
  · have e : lessS a b = decide (a.at_ < b.at_) := Bool.eq_iff_iff.2 ((less_iff a b).trans ⟨fun h => by
      rcases h with h | ⟨h, _⟩
      · exact decide_eq_true h
      · exact absurd h h1, fun h => .inl (of_decide_eq_true h)⟩)
    rw [e]
    refine Does.intro (fn := Try.f17) Try.func17 rfl rfl fun Γ hΓ => ?_
    refine W.run TOK 40 hΓ 1000 ?_
    conv => whnf
    refine ⟨?_, ?_⟩
    repeat' first
      | assumption
      | exact Bool.noConfusion hb
      | exact absurd hb (by decide)
      | (exfalso; omega)
      | exact absurd hb h1
      | (refine W.retA TOK rfl ?_; (conv => whnf); refine ⟨rfl, rfl, rfl, rfl, rfl, rfl, ?_, ?_, ?_⟩)
      | (refine W.branch rfl (fun hb => ?_) (fun hb => ?_) <;> ((try simp only [decide_eq_true_eq, decide_eq_false_iff_not, Bool.not_eq_true', Bool.not_eq_false', Int.not_lt, Int.not_le, cond_true, cond_false, reduceCtorEq, Int.toNat_natCast, Int.reduceToNat, addI] at hb); (try replace hb := of_decide_eq_true hb); (try replace hb := of_decide_eq_false hb)))
      | (refine D.branch rfl (fun hb => ?_) (fun hb => ?_) <;> ((try simp only [decide_eq_true_eq, decide_eq_false_iff_not, Bool.not_eq_true', Bool.not_eq_false', Int.not_lt, Int.not_le, cond_true, cond_false, reduceCtorEq, Int.toNat_natCast, Int.reduceToNat, addI] at hb); (try replace hb := of_decide_eq_true hb); (try replace hb := of_decide_eq_false hb)))
      | (refine W.go TOK 40 hΓ 1000 rfl ?_; (conv => whnf); refine ⟨?_, ?_⟩)
      | (refine D.go TOK 40 hΓ 1000 rfl ?_; (conv => whnf); refine ⟨?_, ?_⟩)
      | (refine W.drawn rfl rfl ?_; refine D.run TOK 40 hΓ 1000 ?_; (conv => whnf); refine ⟨?_, ?_⟩)
    all_goals (repeat' apply And.intro)
    all_goals try (first
      | exact trivial
      | exact rfl
      | exact fun _ _ => A.sim.refl _
      | exact A.sim.refl _
      | exact Nat.le_refl _
      | omega
      | exact fun _ _ => trivial
      | exact fun i _ => shift_sim _ _ i
      | exact fun _ h => absurd h (Nat.not_lt_zero _)
      | exact fun i _ => isInt_byteAt _ i
      | (simp only [allP, List.nil_append, List.append_nil, List.cons_append, List.append_eq, and_true, true_and, inr_i64, inr_u8, inr_u64, min_i64, max_i64, min_u64, max_u64, min_u8, max_u8, A.purePL, A.pureP, A.sureP, A.surePL, Int.toNat_natCast, Int.reduceToNat, addI, cHi, cLo, hiN, loN, subO, addO, hasIdx, cond_true, cond_false]; first | done | omega | ((repeat' apply And.intro) <;> first | exact trivial | rfl | omega | decide))
      )

theorem ins_at (x : Due) : ∀ (o : List Due) (k : Nat), k ≤ o.length → (∀ q, q < k → lessS x (HP.at_ o q) = false) → (k = o.length ∨ lessS x (HP.at_ o k) = true) → HP.ins lessS x o = o.take k ++ ([x] ++ o.drop k)
  | [], k, hk, _, _ => by
    have : k = 0 := Nat.le_zero.1 hk
    subst this
    rfl
  | y :: o, 0, _, _, h => by
    rcases h with h | h
    · cases h
    · show (if lessS x y = true then x :: y :: o else y :: HP.ins lessS x o) = _
      rw [if_pos (show lessS x y = true from h)]
      rfl
  | y :: o, k + 1, hk, hq, h => by
    have hy : lessS x y = false := hq 0 (Nat.succ_pos _)
    show (if lessS x y = true then x :: y :: o else y :: HP.ins lessS x o) = _
    rw [hy, if_neg (by decide), ins_at x o k (Nat.le_of_succ_le_succ hk) (fun q hq2 => hq (q + 1) (Nat.succ_lt_succ hq2)) (by
      rcases h with h | h
      · exact .inl (Nat.succ.inj h)
      · exact .inr h)]
    rfl
theorem srt_snoc (l : List Due) (x : Due) : HP.srt lessS (l ++ [x]) = HP.ins lessS x (HP.srt lessS l) := by
  symm
  refine HP.srt_of less_ord (HP.ins_sl less_ord x (HP.srt_sl less_ord l)) ((HP.ins_perm x _).trans (((HP.srt_perm l).cons x).trans ?_))
  exact List.perm_append_comm (l₁ := [x]) (l₂ := l)
theorem take_snoc {l : List Due} {i : Nat} (hi : i < l.length) : l.take (i + 1) = l.take i ++ [HP.at_ l i] := by
  rw [List.take_add_one, List.getElem?_eq_getElem hi, HP.at_, List.getD_eq_getElem?_getD, List.getElem?_eq_getElem hi]
  rfl

theorem rsorted_does (l : List Due) (h9 : l.length ≤ 1000000) : Does Try.prog 11 [.ro 4 l.length (lsA dueA l)] [] [1] (Is (.own 4 1 0 (HP.srt lessS l).length) [(1, some (.arr 4 (HP.srt lessS l).length (lsA dueA (HP.srt lessS l))))]) := by
  refine Does.intro (fn := Try.f11) Try.func11 rfl rfl fun Γ hΓ => ?_
  refine W.run TOK 45 hΓ 1000 ?_
  conv => whnf
  refine ⟨?_, ?_⟩
  repeat' first
    | assumption
    | exact Bool.noConfusion hb
    | exact absurd hb (by decide)
    | (refine W.branch rfl (fun hb => ?_) (fun hb => ?_) <;> ((try simp only [decide_eq_true_eq, decide_eq_false_iff_not, Bool.not_eq_true', Bool.not_eq_false', Int.not_lt, Int.not_le, cond_true, cond_false, reduceCtorEq, Int.toNat_natCast, Int.reduceToNat, addI] at hb); (try replace hb := of_decide_eq_true hb); (try replace hb := of_decide_eq_false hb)))
    | (refine D.branch rfl (fun hb => ?_) (fun hb => ?_) <;> ((try simp only [decide_eq_true_eq, decide_eq_false_iff_not, Bool.not_eq_true', Bool.not_eq_false', Int.not_lt, Int.not_le, cond_true, cond_false, reduceCtorEq, Int.toNat_natCast, Int.reduceToNat, addI] at hb); (try replace hb := of_decide_eq_true hb); (try replace hb := of_decide_eq_false hb)))
    | (refine W.go TOK 45 hΓ 1000 rfl ?_; (conv => whnf); refine ⟨?_, ?_⟩)
    | (refine D.go TOK 45 hΓ 1000 rfl ?_; (conv => whnf); refine ⟨?_, ?_⟩)
    | (refine W.drawn rfl rfl ?_; refine D.run TOK 45 hΓ 1000 ?_; (conv => whnf); refine ⟨?_, ?_⟩)
  all_goals (repeat' apply And.intro)
  all_goals try (first
    | exact trivial
    | exact rfl
    | exact fun _ _ => A.sim.refl _
    | exact A.sim.refl _
    | exact Nat.le_refl _
    | omega
    | exact fun _ _ => trivial
    | exact fun i _ => shift_sim _ _ i
    | exact fun _ h => absurd h (Nat.not_lt_zero _)
    | exact fun i _ => isInt_byteAt _ i
    | (simp only [allP, List.nil_append, List.append_nil, List.cons_append, List.append_eq, and_true, true_and, inr_i64, inr_u8, inr_u64, min_i64, max_i64, min_u64, max_u64, min_u8, max_u8, A.purePL, A.pureP, A.sureP, A.surePL, Int.toNat_natCast, Int.reduceToNat, addI, cHi, cLo, hiN, loN, subO, addO, hasIdx, cond_true, cond_false]; first | done | omega | ((repeat' apply And.intro) <;> first | exact trivial | rfl | omega | decide))
    )
  refine W.loopA (Nat × List Due) (fun x => x.1 ≤ l.length ∧ x.2 = HP.srt lessS (l.take x.1)) (fun x => l.length - x.1) (fun x => [(3, .own 4 700 0 x.2.length), (4, .int .i64 (x.1 : Nat))]) (fun x => [(700, some (.arr 4 x.2.length (lsA dueA x.2)))]) [] ((0, [])) (⟨Nat.zero_le _, rfl⟩) ?_
  (conv => whnf); refine ⟨?_, ?_⟩; focus ((conv => whnf); refine ⟨rfl, rfl, rfl, rfl, rfl, rfl, ?_, ?_⟩; iterate 2 (focus ((repeat' apply And.intro) <;> first | exact trivial | (intro i _; rw [Nat.zero_add]; exact A.sim.refl _) | with_reducible exact rfl | exact fun _ _ => A.sim.refl _ | exact A.sim.refl _ | exact rfl | exact Nat.le_refl _ | omega | exact fun i _ => shift_sim _ _ i | exact fun _ _ => trivial | exact fun _ h => absurd h (Nat.not_lt_zero _))))
  rintro ⟨i, o⟩ ⟨hi, ho⟩ ih
  simp only at hi ho
  have hol : o.length = i := by rw [ho, HP.srt_len, List.length_take]; omega
  by_cases hil : i < l.length
  rotate_left
  · have hfin : o = HP.srt lessS l := by rw [ho, List.take_of_length_le (by omega)]
    rw [← hfin]
    repeat' first
      | assumption
      | exact Bool.noConfusion hb
      | exact absurd hb (by decide)
      | (exfalso; omega)
      | (refine W.retA TOK rfl ?_; (conv => whnf); refine ⟨rfl, rfl, rfl, rfl, rfl, rfl, ?_, ?_, ?_⟩)
      | (refine W.branch rfl (fun hb => ?_) (fun hb => ?_) <;> ((try simp only [decide_eq_true_eq, decide_eq_false_iff_not, Bool.not_eq_true', Bool.not_eq_false', Int.not_lt, Int.not_le, cond_true, cond_false, reduceCtorEq, Int.toNat_natCast, Int.reduceToNat, addI] at hb); (try replace hb := of_decide_eq_true hb); (try replace hb := of_decide_eq_false hb)))
      | (refine D.branch rfl (fun hb => ?_) (fun hb => ?_) <;> ((try simp only [decide_eq_true_eq, decide_eq_false_iff_not, Bool.not_eq_true', Bool.not_eq_false', Int.not_lt, Int.not_le, cond_true, cond_false, reduceCtorEq, Int.toNat_natCast, Int.reduceToNat, addI] at hb); (try replace hb := of_decide_eq_true hb); (try replace hb := of_decide_eq_false hb)))
      | (refine W.go TOK 45 hΓ 1000 rfl ?_; (conv => whnf); refine ⟨?_, ?_⟩)
      | (refine D.go TOK 45 hΓ 1000 rfl ?_; (conv => whnf); refine ⟨?_, ?_⟩)
      | (refine W.drawn rfl rfl ?_; refine D.run TOK 45 hΓ 1000 ?_; (conv => whnf); refine ⟨?_, ?_⟩)
    all_goals (repeat' apply And.intro)
    all_goals try (first
      | exact trivial
      | exact rfl
      | exact fun _ _ => A.sim.refl _
      | exact A.sim.refl _
      | exact Nat.le_refl _
      | omega
      | exact fun _ _ => trivial
      | exact fun i _ => shift_sim _ _ i
      | exact fun _ h => absurd h (Nat.not_lt_zero _)
      | exact fun i _ => isInt_byteAt _ i
      | (simp only [allP, List.nil_append, List.append_nil, List.cons_append, List.append_eq, and_true, true_and, inr_i64, inr_u8, inr_u64, min_i64, max_i64, min_u64, max_u64, min_u8, max_u8, A.purePL, A.pureP, A.sureP, A.surePL, Int.toNat_natCast, Int.reduceToNat, addI, cHi, cLo, hiN, loN, subO, addO, hasIdx, cond_true, cond_false]; first | done | omega | ((repeat' apply And.intro) <;> first | exact trivial | rfl | omega | decide))
      )
  repeat' first
    | assumption
    | exact Bool.noConfusion hb
    | exact absurd hb (by decide)
    | (exfalso; omega)
    | (refine W.branch rfl (fun hb => ?_) (fun hb => ?_) <;> ((try simp only [decide_eq_true_eq, decide_eq_false_iff_not, Bool.not_eq_true', Bool.not_eq_false', Int.not_lt, Int.not_le, cond_true, cond_false, reduceCtorEq, Int.toNat_natCast, Int.reduceToNat, addI] at hb); (try replace hb := of_decide_eq_true hb); (try replace hb := of_decide_eq_false hb)))
    | (refine D.branch rfl (fun hb => ?_) (fun hb => ?_) <;> ((try simp only [decide_eq_true_eq, decide_eq_false_iff_not, Bool.not_eq_true', Bool.not_eq_false', Int.not_lt, Int.not_le, cond_true, cond_false, reduceCtorEq, Int.toNat_natCast, Int.reduceToNat, addI] at hb); (try replace hb := of_decide_eq_true hb); (try replace hb := of_decide_eq_false hb)))
    | (refine W.go TOK 45 hΓ 1000 rfl ?_; (conv => whnf); refine ⟨?_, ?_⟩)
    | (refine D.go TOK 45 hΓ 1000 rfl ?_; (conv => whnf); refine ⟨?_, ?_⟩)
    | (refine W.drawn rfl rfl ?_; refine D.run TOK 45 hΓ 1000 ?_; (conv => whnf); refine ⟨?_, ?_⟩)
  all_goals (repeat' apply And.intro)
  all_goals try (first
    | exact trivial
    | exact rfl
    | exact fun _ _ => A.sim.refl _
    | exact A.sim.refl _
    | exact Nat.le_refl _
    | omega
    | exact fun _ _ => trivial
    | exact fun i _ => shift_sim _ _ i
    | exact fun _ h => absurd h (Nat.not_lt_zero _)
    | exact fun i _ => isInt_byteAt _ i
    | (simp only [allP, List.nil_append, List.append_nil, List.cons_append, List.append_eq, and_true, true_and, inr_i64, inr_u8, inr_u64, min_i64, max_i64, min_u64, max_u64, min_u8, max_u8, A.purePL, A.pureP, A.sureP, A.surePL, Int.toNat_natCast, Int.reduceToNat, addI, cHi, cLo, hiN, loN, subO, addO, hasIdx, cond_true, cond_false]; first | done | omega | ((repeat' apply And.intro) <;> first | exact trivial | rfl | omega | decide))
    )
  refine W.loopA (Nat) (fun k => k ≤ o.length ∧ ∀ q, q < k → lessS (HP.at_ l i) (HP.at_ o q) = false) (fun k => o.length - k) (fun k => [(5, .int .i64 (k : Nat))]) (fun _ => []) [] (0) (⟨Nat.zero_le _, fun q hq => absurd hq (Nat.not_lt_zero _)⟩) ?_
  (conv => whnf); refine ⟨?_, ?_⟩; focus ((conv => whnf); refine ⟨rfl, rfl, rfl, rfl, rfl, rfl, ?_, ?_⟩; iterate 2 (focus ((repeat' apply And.intro) <;> first | exact trivial | (intro i _; rw [Nat.zero_add]; exact A.sim.refl _) | with_reducible exact rfl | exact fun _ _ => A.sim.refl _ | exact A.sim.refl _ | exact rfl | exact Nat.le_refl _ | omega | exact fun i _ => shift_sim _ _ i | exact fun _ _ => trivial | exact fun _ h => absurd h (Nat.not_lt_zero _))))
  rintro k ⟨hk, hq⟩ ih2
  have hgo : ∀ o2, o2 = o.take k ++ ([HP.at_ l i] ++ o.drop k) → (k = o.length ∨ lessS (HP.at_ l i) (HP.at_ o k) = true) → (i + 1 ≤ l.length ∧ o2 = HP.srt lessS (l.take (i + 1))) := fun o2 h2 hs => by
    refine ⟨hil, ?_⟩
    rw [take_snoc hil, srt_snoc, ← ho, ins_at _ o k hk hq hs]
    exact h2
  have hsim : ∀ (g : Nat → A), g 0 = dueA (HP.at_ l i) → ∀ (o2 : List Due) (m : Nat), o2 = o.take k ++ ([HP.at_ l i] ++ o.drop k) → m ≤ k + 1 + (o.length - k) → ∀ j, j < m → (catF (k + 1) (catF k (lsA dueA o) g) (shiftF k (lsA dueA o)) j).sim (lsA dueA o2 j) := fun g hg o2 m h2 hm j hj => A.sim.of (by
    subst h2
    unfold lsA
    by_cases c1 : j < k + 1
    · rw [catF_lt c1]
      by_cases c2 : j < k
      · rw [catF_lt c2]
        simp only [List.getD_eq_getElem?_getD]
        rw [List.getElem?_append_left (by rw [List.length_take]; omega), List.getElem?_take_of_lt c2]
      · rw [catF_ge (by omega)]
        have : j = k := by omega
        subst this
        rw [Nat.sub_self, hg]
        simp only [List.getD_eq_getElem?_getD]
        rw [List.getElem?_append_right (by rw [List.length_take]; omega), List.length_take, Nat.min_eq_left hk, Nat.sub_self]
        rfl
    · rw [catF_ge (by omega)]
      have hsh : ∀ g : Nat → A, shiftF k g (j - (k + 1)) = g (k + (j - (k + 1))) := fun g => by
        cases k with
        | zero => exact congrArg g (Nat.zero_add _).symm
        | succ k => rfl
      rw [hsh]
      simp only [List.getD_eq_getElem?_getD]
      rw [List.getElem?_append_right (by rw [List.length_take]; omega), List.length_take, Nat.min_eq_left hk, List.getElem?_append_right (by simp only [List.length_cons, List.length_nil]; omega), List.getElem?_drop]
      exact congrArg (fun q => dueA (o[q]?.getD default)) (by simp only [List.length_cons, List.length_nil]; omega))
  obtain ⟨o2, ho2⟩ : ∃ o2, o2 = o.take k ++ ([HP.at_ l i] ++ o.drop k) := ⟨_, rfl⟩
  have hl2 : o2.length = k + 1 + (o.length - k) := by rw [ho2]; simp only [List.length_append, List.length_take, List.length_drop, List.length_cons, List.length_nil]; omega
  have hl3 : o2.length = 0 + k + 1 + (o.length - k) := by omega
  by_cases hke : k = o.length
  · have ih3 := ih (i + 1, o2) (hgo o2 ho2 (.inl hke)) (by simp only; omega)
    have hm := fun g hg => hsim g hg o2 o2.length ho2 (by omega)
    repeat' first
      | assumption
      | exact Bool.noConfusion hb
      | exact absurd hb (by decide)
      | (exfalso; omega)
      | (refine W.toA (ih3) ?_; rotate_left 0; (conv => whnf); refine ⟨rfl, rfl, rfl, rfl, rfl, rfl, ?_, ?_⟩; iterate 2 (focus ((repeat' apply And.intro) <;> first | exact trivial | (intro i _; rw [Nat.zero_add]; exact A.sim.refl _) | with_reducible exact rfl | exact fun _ _ => A.sim.refl _ | exact A.sim.refl _ | exact rfl | exact Nat.le_refl _ | omega | exact fun i _ => shift_sim _ _ i | exact fun _ _ => trivial | exact fun _ h => absurd h (Nat.not_lt_zero _) | exact hl2 | exact hl2.symm | exact hm _ rfl | exact Nat.le_of_eq hl2)))
      | (refine W.branch rfl (fun hb => ?_) (fun hb => ?_) <;> ((try simp only [decide_eq_true_eq, decide_eq_false_iff_not, Bool.not_eq_true', Bool.not_eq_false', Int.not_lt, Int.not_le, cond_true, cond_false, reduceCtorEq, Int.toNat_natCast, Int.reduceToNat, addI] at hb); (try replace hb := of_decide_eq_true hb); (try replace hb := of_decide_eq_false hb)))
      | (refine D.branch rfl (fun hb => ?_) (fun hb => ?_) <;> ((try simp only [decide_eq_true_eq, decide_eq_false_iff_not, Bool.not_eq_true', Bool.not_eq_false', Int.not_lt, Int.not_le, cond_true, cond_false, reduceCtorEq, Int.toNat_natCast, Int.reduceToNat, addI] at hb); (try replace hb := of_decide_eq_true hb); (try replace hb := of_decide_eq_false hb)))
      | (refine W.go TOK 45 hΓ 1000 rfl ?_; (conv => whnf); refine ⟨?_, ?_⟩)
      | (refine D.go TOK 45 hΓ 1000 rfl ?_; (conv => whnf); refine ⟨?_, ?_⟩)
      | (refine W.drawn rfl rfl ?_; refine D.run TOK 45 hΓ 1000 ?_; (conv => whnf); refine ⟨?_, ?_⟩)
    all_goals (repeat' apply And.intro)
    all_goals try (first
      | exact trivial
      | exact rfl
      | exact fun _ _ => A.sim.refl _
      | exact A.sim.refl _
      | exact Nat.le_refl _
      | omega
      | exact fun _ _ => trivial
      | exact fun i _ => shift_sim _ _ i
      | exact fun _ h => absurd h (Nat.not_lt_zero _)
      | exact fun i _ => isInt_byteAt _ i
      | (simp only [allP, List.nil_append, List.append_nil, List.cons_append, List.append_eq, and_true, true_and, inr_i64, inr_u8, inr_u64, min_i64, max_i64, min_u64, max_u64, min_u8, max_u8, A.purePL, A.pureP, A.sureP, A.surePL, Int.toNat_natCast, Int.reduceToNat, addI, cHi, cLo, hiN, loN, subO, addO, hasIdx, cond_true, cond_false]; first | done | omega | ((repeat' apply And.intro) <;> first | exact trivial | rfl | omega | decide))
      )
  · have cl := rless_does (HP.at_ l i) (HP.at_ o k)
    cases ht : lessS (HP.at_ l i) (HP.at_ o k) with
    | true =>
      rw [ht] at cl
      have ih3 := ih (i + 1, o2) (hgo o2 ho2 (.inr ht)) (by simp only; omega)
      have hm := fun g hg => hsim g hg o2 o2.length ho2 (by omega)
      repeat' first
        | assumption
        | exact Bool.noConfusion hb
        | exact absurd hb (by decide)
        | (exfalso; omega)
        | (exfalso; simp at hb; done)
        | (refine W.toA (ih3) ?_; rotate_left 0; (conv => whnf); refine ⟨rfl, rfl, rfl, rfl, rfl, rfl, ?_, ?_⟩; iterate 2 (focus ((repeat' apply And.intro) <;> first | exact trivial | (intro i _; rw [Nat.zero_add]; exact A.sim.refl _) | with_reducible exact rfl | exact fun _ _ => A.sim.refl _ | exact A.sim.refl _ | exact rfl | exact Nat.le_refl _ | omega | exact fun i _ => shift_sim _ _ i | exact fun _ _ => trivial | exact fun _ h => absurd h (Nat.not_lt_zero _) | exact hl2 | exact hl2.symm | exact hm _ rfl | exact Nat.le_of_eq hl2)))
        | (refine W.branch rfl (fun hb => ?_) (fun hb => ?_) <;> ((try simp only [decide_eq_true_eq, decide_eq_false_iff_not, Bool.not_eq_true', Bool.not_eq_false', Int.not_lt, Int.not_le, cond_true, cond_false, reduceCtorEq, Int.toNat_natCast, Int.reduceToNat, addI] at hb); (try replace hb := of_decide_eq_true hb); (try replace hb := of_decide_eq_false hb)))
        | (refine D.branch rfl (fun hb => ?_) (fun hb => ?_) <;> ((try simp only [decide_eq_true_eq, decide_eq_false_iff_not, Bool.not_eq_true', Bool.not_eq_false', Int.not_lt, Int.not_le, cond_true, cond_false, reduceCtorEq, Int.toNat_natCast, Int.reduceToNat, addI] at hb); (try replace hb := of_decide_eq_true hb); (try replace hb := of_decide_eq_false hb)))
        | ((first | (refine D.callA (cl) rfl rfl rfl rfl hΓ rfl ?_; (conv => whnf); refine ⟨rfl, rfl, rfl, ?_, ?_, ?_, ?_⟩) | (refine W.callA (cl) rfl rfl rfl rfl hΓ rfl ?_; (conv => whnf); refine ⟨rfl, rfl, ?_, ?_, ?_, ?_⟩)); iterate 3 (focus ((repeat' apply And.intro) <;> first | exact trivial | (intro i _; rw [Nat.zero_add]; exact A.sim.refl _) | with_reducible exact rfl | exact fun _ _ => A.sim.refl _ | exact A.sim.refl _ | exact rfl | exact Nat.le_refl _ | omega | exact fun i _ => shift_sim _ _ i | exact fun _ _ => trivial | exact fun _ h => absurd h (Nat.not_lt_zero _) | exact hl2 | exact hl2.symm | exact hm _ rfl | exact Nat.le_of_eq hl2)); (conv => whnf))
        | (refine W.go TOK 45 hΓ 1000 rfl ?_; (conv => whnf); refine ⟨?_, ?_⟩)
        | (refine D.go TOK 45 hΓ 1000 rfl ?_; (conv => whnf); refine ⟨?_, ?_⟩)
        | (refine W.drawn rfl rfl ?_; refine D.run TOK 45 hΓ 1000 ?_; (conv => whnf); refine ⟨?_, ?_⟩)
      all_goals (repeat' apply And.intro)
      all_goals try (first
        | exact trivial
        | exact rfl
        | exact fun _ _ => A.sim.refl _
        | exact A.sim.refl _
        | exact Nat.le_refl _
        | omega
        | exact fun _ _ => trivial
        | exact fun i _ => shift_sim _ _ i
        | exact fun _ h => absurd h (Nat.not_lt_zero _)
        | exact fun i _ => isInt_byteAt _ i
        | (simp only [allP, List.nil_append, List.append_nil, List.cons_append, List.append_eq, and_true, true_and, inr_i64, inr_u8, inr_u64, min_i64, max_i64, min_u64, max_u64, min_u8, max_u8, A.purePL, A.pureP, A.sureP, A.surePL, Int.toNat_natCast, Int.reduceToNat, addI, cHi, cLo, hiN, loN, subO, addO, hasIdx, cond_true, cond_false]; first | done | omega | ((repeat' apply And.intro) <;> first | exact trivial | rfl | omega | decide))
        )
    | false =>
      rw [ht] at cl
      have ih4 := ih2 (k + 1) ⟨by omega, fun q hq2 => by
        rcases Nat.lt_or_ge q k with h | h
        · exact hq q h
        · have : q = k := by omega
          subst this
          exact ht⟩ (by omega)
      repeat' first
        | assumption
        | exact Bool.noConfusion hb
        | exact absurd hb (by decide)
        | (exfalso; omega)
        | (exfalso; simp at hb; done)
        | (refine W.toA (ih4) ?_; rotate_left 0; (conv => whnf); refine ⟨rfl, rfl, rfl, rfl, rfl, rfl, ?_, ?_⟩; iterate 2 (focus ((repeat' apply And.intro) <;> first | exact trivial | (intro i _; rw [Nat.zero_add]; exact A.sim.refl _) | with_reducible exact rfl | exact fun _ _ => A.sim.refl _ | exact A.sim.refl _ | exact rfl | exact Nat.le_refl _ | omega | exact fun i _ => shift_sim _ _ i | exact fun _ _ => trivial | exact fun _ h => absurd h (Nat.not_lt_zero _))))
        | (refine W.branch rfl (fun hb => ?_) (fun hb => ?_) <;> ((try simp only [decide_eq_true_eq, decide_eq_false_iff_not, Bool.not_eq_true', Bool.not_eq_false', Int.not_lt, Int.not_le, cond_true, cond_false, reduceCtorEq, Int.toNat_natCast, Int.reduceToNat, addI] at hb); (try replace hb := of_decide_eq_true hb); (try replace hb := of_decide_eq_false hb)))
        | (refine D.branch rfl (fun hb => ?_) (fun hb => ?_) <;> ((try simp only [decide_eq_true_eq, decide_eq_false_iff_not, Bool.not_eq_true', Bool.not_eq_false', Int.not_lt, Int.not_le, cond_true, cond_false, reduceCtorEq, Int.toNat_natCast, Int.reduceToNat, addI] at hb); (try replace hb := of_decide_eq_true hb); (try replace hb := of_decide_eq_false hb)))
        | ((first | (refine D.callA (cl) rfl rfl rfl rfl hΓ rfl ?_; (conv => whnf); refine ⟨rfl, rfl, rfl, ?_, ?_, ?_, ?_⟩) | (refine W.callA (cl) rfl rfl rfl rfl hΓ rfl ?_; (conv => whnf); refine ⟨rfl, rfl, ?_, ?_, ?_, ?_⟩)); iterate 3 (focus ((repeat' apply And.intro) <;> first | exact trivial | (intro i _; rw [Nat.zero_add]; exact A.sim.refl _) | with_reducible exact rfl | exact fun _ _ => A.sim.refl _ | exact A.sim.refl _ | exact rfl | exact Nat.le_refl _ | omega | exact fun i _ => shift_sim _ _ i | exact fun _ _ => trivial | exact fun _ h => absurd h (Nat.not_lt_zero _))); (conv => whnf))
        | (refine W.go TOK 45 hΓ 1000 rfl ?_; (conv => whnf); refine ⟨?_, ?_⟩)
        | (refine D.go TOK 45 hΓ 1000 rfl ?_; (conv => whnf); refine ⟨?_, ?_⟩)
        | (refine W.drawn rfl rfl ?_; refine D.run TOK 45 hΓ 1000 ?_; (conv => whnf); refine ⟨?_, ?_⟩)
      all_goals (repeat' apply And.intro)
      all_goals try (first
        | exact trivial
        | exact rfl
        | exact fun _ _ => A.sim.refl _
        | exact A.sim.refl _
        | exact Nat.le_refl _
        | omega
        | exact fun _ _ => trivial
        | exact fun i _ => shift_sim _ _ i
        | exact fun _ h => absurd h (Nat.not_lt_zero _)
        | exact fun i _ => isInt_byteAt _ i
        | (simp only [allP, List.nil_append, List.append_nil, List.cons_append, List.append_eq, and_true, true_and, inr_i64, inr_u8, inr_u64, min_i64, max_i64, min_u64, max_u64, min_u8, max_u8, A.purePL, A.pureP, A.sureP, A.surePL, Int.toNat_natCast, Int.reduceToNat, addI, cHi, cLo, hiN, loN, subO, addO, hasIdx, cond_true, cond_false]; first | done | omega | ((repeat' apply And.intro) <;> first | exact trivial | rfl | omega | decide))
        )

end Go.Proofs.Ytaiaaaeodpgajaa
