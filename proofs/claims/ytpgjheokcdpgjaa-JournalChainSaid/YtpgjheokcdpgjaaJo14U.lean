/- Walks: requests as bytes. -/
import Derived.Test.YtpgjheokcdpgjaaJo14F
import Derived.Test.YtpgjheokcdpgjaaJoSpec
import Derived.Test.YtpgjheokcdpgjaaVxI
set_option linter.unusedSimpArgs false
set_option linter.unusedVariables false
namespace Go.Proofs.Ytpgjheokcdpgjaa
open VX
set_option maxRecDepth 100000
set_option maxHeartbeats 4000000
theorem may_does (s : List UInt8) (v k : Int) : Does Try.prog 55 [entA s v k] [] [] (Is (.bool (mayE s v k)) []) := by
  by_cases h1 : 1 ≤ s.length
  rotate_left
  · have e : mayE s v k = false := decide_eq_false (fun h => by omega)
    rw [e]
    refine Does.intro (fn := Try.f55) Try.func55 rfl rfl fun Γ hΓ => ?_
    refine W.run TOK 33 hΓ 1000 ?_
    conv => whnf
    refine ⟨?_, ?_⟩
    repeat' first
      | assumption
      | exact Bool.noConfusion hb
      | exact absurd hb (by decide)
      | (exfalso; omega)
      | (refine W.retA TOK rfl ?_; (conv => whnf); refine ⟨rfl, rfl, rfl, rfl, rfl, rfl, ?_, ?_, ?_⟩)
      | (refine W.branch rfl (fun hb => ?_) (fun hb => ?_) <;> ((try simp only [decide_eq_true_eq, decide_eq_false_iff_not, Bool.not_eq_true', Bool.not_eq_false', Int.not_lt, Int.not_le, cond_true, cond_false, reduceCtorEq, Int.toNat_natCast, Int.reduceToNat, addI] at hb); (try replace hb := of_decide_eq_true hb); (try replace hb := of_decide_eq_false hb)))
      | (refine W.go TOK 33 hΓ 1000 rfl ?_; (conv => whnf); refine ⟨?_, ?_⟩)
    all_goals (repeat' apply And.intro)
    all_goals try (first
      | exact trivial
      | exact rfl
      | exact fun _ _ => A.sim.refl _
      | exact A.sim.refl _
      | exact Nat.le_refl _
      | omega
      | exact fun _ _ => trivial
      | exact fun i _ => shift_sim _ _ i
      | exact fun _ h => absurd h (Nat.not_lt_zero _)
      | exact fun i _ => isInt_byteAt _ i
      | (simp only [allP, List.nil_append, List.append_nil, List.cons_append, List.append_eq, and_true, true_and, inr_i64, inr_u8, inr_u64, min_i64, max_i64, min_u64, max_u64, min_u8, max_u8, A.purePL, A.pureP, A.sureP, A.surePL, Int.toNat_natCast, Int.reduceToNat, addI, cHi, cLo, hiN, loN, subO, addO, hasIdx, cond_true, cond_false]; first | done | omega | ((repeat' apply And.intro) <;> first | exact trivial | rfl | omega | decide))
      | exact decide_eq_false (by omega)
      )
  by_cases h2 : s.length ≤ 32
  rotate_left
  · have e : mayE s v k = false := decide_eq_false (fun h => by omega)
    rw [e]
    refine Does.intro (fn := Try.f55) Try.func55 rfl rfl fun Γ hΓ => ?_
    refine W.run TOK 33 hΓ 1000 ?_
    conv => whnf
    refine ⟨?_, ?_⟩
    repeat' first
      | assumption
      | exact Bool.noConfusion hb
      | exact absurd hb (by decide)
      | (exfalso; omega)
      | (refine W.retA TOK rfl ?_; (conv => whnf); refine ⟨rfl, rfl, rfl, rfl, rfl, rfl, ?_, ?_, ?_⟩)
      | (refine W.branch rfl (fun hb => ?_) (fun hb => ?_) <;> ((try simp only [decide_eq_true_eq, decide_eq_false_iff_not, Bool.not_eq_true', Bool.not_eq_false', Int.not_lt, Int.not_le, cond_true, cond_false, reduceCtorEq, Int.toNat_natCast, Int.reduceToNat, addI] at hb); (try replace hb := of_decide_eq_true hb); (try replace hb := of_decide_eq_false hb)))
      | (refine W.go TOK 33 hΓ 1000 rfl ?_; (conv => whnf); refine ⟨?_, ?_⟩)
    all_goals (repeat' apply And.intro)
    all_goals try (first
      | exact trivial
      | exact rfl
      | exact fun _ _ => A.sim.refl _
      | exact A.sim.refl _
      | exact Nat.le_refl _
      | omega
      | exact fun _ _ => trivial
      | exact fun i _ => shift_sim _ _ i
      | exact fun _ h => absurd h (Nat.not_lt_zero _)
      | exact fun i _ => isInt_byteAt _ i
      | (simp only [allP, List.nil_append, List.append_nil, List.cons_append, List.append_eq, and_true, true_and, inr_i64, inr_u8, inr_u64, min_i64, max_i64, min_u64, max_u64, min_u8, max_u8, A.purePL, A.pureP, A.sureP, A.surePL, Int.toNat_natCast, Int.reduceToNat, addI, cHi, cLo, hiN, loN, subO, addO, hasIdx, cond_true, cond_false]; first | done | omega | ((repeat' apply And.intro) <;> first | exact trivial | rfl | omega | decide))
      | exact decide_eq_false (by omega)
      )
  by_cases h3 : 1 ≤ v
  rotate_left
  · have e : mayE s v k = false := decide_eq_false (fun h => by omega)
    rw [e]
    refine Does.intro (fn := Try.f55) Try.func55 rfl rfl fun Γ hΓ => ?_
    refine W.run TOK 33 hΓ 1000 ?_
    conv => whnf
    refine ⟨?_, ?_⟩
    repeat' first
      | assumption
      | exact Bool.noConfusion hb
      | exact absurd hb (by decide)
      | (exfalso; omega)
      | (refine W.retA TOK rfl ?_; (conv => whnf); refine ⟨rfl, rfl, rfl, rfl, rfl, rfl, ?_, ?_, ?_⟩)
      | (refine W.branch rfl (fun hb => ?_) (fun hb => ?_) <;> ((try simp only [decide_eq_true_eq, decide_eq_false_iff_not, Bool.not_eq_true', Bool.not_eq_false', Int.not_lt, Int.not_le, cond_true, cond_false, reduceCtorEq, Int.toNat_natCast, Int.reduceToNat, addI] at hb); (try replace hb := of_decide_eq_true hb); (try replace hb := of_decide_eq_false hb)))
      | (refine W.go TOK 33 hΓ 1000 rfl ?_; (conv => whnf); refine ⟨?_, ?_⟩)
    all_goals (repeat' apply And.intro)
    all_goals try (first
      | exact trivial
      | exact rfl
      | exact fun _ _ => A.sim.refl _
      | exact A.sim.refl _
      | exact Nat.le_refl _
      | omega
      | exact fun _ _ => trivial
      | exact fun i _ => shift_sim _ _ i
      | exact fun _ h => absurd h (Nat.not_lt_zero _)
      | exact fun i _ => isInt_byteAt _ i
      | (simp only [allP, List.nil_append, List.append_nil, List.cons_append, List.append_eq, and_true, true_and, inr_i64, inr_u8, inr_u64, min_i64, max_i64, min_u64, max_u64, min_u8, max_u8, A.purePL, A.pureP, A.sureP, A.surePL, Int.toNat_natCast, Int.reduceToNat, addI, cHi, cLo, hiN, loN, subO, addO, hasIdx, cond_true, cond_false]; first | done | omega | ((repeat' apply And.intro) <;> first | exact trivial | rfl | omega | decide))
      | exact decide_eq_false (by omega)
      )
  by_cases h4 : v ≤ 1073741824
  rotate_left
  · have e : mayE s v k = false := decide_eq_false (fun h => by omega)
    rw [e]
    refine Does.intro (fn := Try.f55) Try.func55 rfl rfl fun Γ hΓ => ?_
    refine W.run TOK 33 hΓ 1000 ?_
    conv => whnf
    refine ⟨?_, ?_⟩
    repeat' first
      | assumption
      | exact Bool.noConfusion hb
      | exact absurd hb (by decide)
      | (exfalso; omega)
      | (refine W.retA TOK rfl ?_; (conv => whnf); refine ⟨rfl, rfl, rfl, rfl, rfl, rfl, ?_, ?_, ?_⟩)
      | (refine W.branch rfl (fun hb => ?_) (fun hb => ?_) <;> ((try simp only [decide_eq_true_eq, decide_eq_false_iff_not, Bool.not_eq_true', Bool.not_eq_false', Int.not_lt, Int.not_le, cond_true, cond_false, reduceCtorEq, Int.toNat_natCast, Int.reduceToNat, addI] at hb); (try replace hb := of_decide_eq_true hb); (try replace hb := of_decide_eq_false hb)))
      | (refine W.go TOK 33 hΓ 1000 rfl ?_; (conv => whnf); refine ⟨?_, ?_⟩)
    all_goals (repeat' apply And.intro)
    all_goals try (first
      | exact trivial
      | exact rfl
      | exact fun _ _ => A.sim.refl _
      | exact A.sim.refl _
      | exact Nat.le_refl _
      | omega
      | exact fun _ _ => trivial
      | exact fun i _ => shift_sim _ _ i
      | exact fun _ h => absurd h (Nat.not_lt_zero _)
      | exact fun i _ => isInt_byteAt _ i
      | (simp only [allP, List.nil_append, List.append_nil, List.cons_append, List.append_eq, and_true, true_and, inr_i64, inr_u8, inr_u64, min_i64, max_i64, min_u64, max_u64, min_u8, max_u8, A.purePL, A.pureP, A.sureP, A.surePL, Int.toNat_natCast, Int.reduceToNat, addI, cHi, cLo, hiN, loN, subO, addO, hasIdx, cond_true, cond_false]; first | done | omega | ((repeat' apply And.intro) <;> first | exact trivial | rfl | omega | decide))
      | exact decide_eq_false (by omega)
      )
  by_cases h5 : 1 ≤ k
  rotate_left
  · have e : mayE s v k = false := decide_eq_false (fun h => by omega)
    rw [e]
    refine Does.intro (fn := Try.f55) Try.func55 rfl rfl fun Γ hΓ => ?_
    refine W.run TOK 33 hΓ 1000 ?_
    conv => whnf
    refine ⟨?_, ?_⟩
    repeat' first
      | assumption
      | exact Bool.noConfusion hb
      | exact absurd hb (by decide)
      | (exfalso; omega)
      | (refine W.retA TOK rfl ?_; (conv => whnf); refine ⟨rfl, rfl, rfl, rfl, rfl, rfl, ?_, ?_, ?_⟩)
      | (refine W.branch rfl (fun hb => ?_) (fun hb => ?_) <;> ((try simp only [decide_eq_true_eq, decide_eq_false_iff_not, Bool.not_eq_true', Bool.not_eq_false', Int.not_lt, Int.not_le, cond_true, cond_false, reduceCtorEq, Int.toNat_natCast, Int.reduceToNat, addI] at hb); (try replace hb := of_decide_eq_true hb); (try replace hb := of_decide_eq_false hb)))
      | (refine W.go TOK 33 hΓ 1000 rfl ?_; (conv => whnf); refine ⟨?_, ?_⟩)
    all_goals (repeat' apply And.intro)
    all_goals try (first
      | exact trivial
      | exact rfl
      | exact fun _ _ => A.sim.refl _
      | exact A.sim.refl _
      | exact Nat.le_refl _
      | omega
      | exact fun _ _ => trivial
      | exact fun i _ => shift_sim _ _ i
      | exact fun _ h => absurd h (Nat.not_lt_zero _)
      | exact fun i _ => isInt_byteAt _ i
      | (simp only [allP, List.nil_append, List.append_nil, List.cons_append, List.append_eq, and_true, true_and, inr_i64, inr_u8, inr_u64, min_i64, max_i64, min_u64, max_u64, min_u8, max_u8, A.purePL, A.pureP, A.sureP, A.surePL, Int.toNat_natCast, Int.reduceToNat, addI, cHi, cLo, hiN, loN, subO, addO, hasIdx, cond_true, cond_false]; first | done | omega | ((repeat' apply And.intro) <;> first | exact trivial | rfl | omega | decide))
      | exact decide_eq_false (by omega)
      )
  by_cases h6 : k < 2305843009213693951
  rotate_left
  · have e : mayE s v k = false := decide_eq_false (fun h => by omega)
    rw [e]
    refine Does.intro (fn := Try.f55) Try.func55 rfl rfl fun Γ hΓ => ?_
    refine W.run TOK 33 hΓ 1000 ?_
    conv => whnf
    refine ⟨?_, ?_⟩
    repeat' first
      | assumption
      | exact Bool.noConfusion hb
      | exact absurd hb (by decide)
      | (exfalso; omega)
      | (refine W.retA TOK rfl ?_; (conv => whnf); refine ⟨rfl, rfl, rfl, rfl, rfl, rfl, ?_, ?_, ?_⟩)
      | (refine W.branch rfl (fun hb => ?_) (fun hb => ?_) <;> ((try simp only [decide_eq_true_eq, decide_eq_false_iff_not, Bool.not_eq_true', Bool.not_eq_false', Int.not_lt, Int.not_le, cond_true, cond_false, reduceCtorEq, Int.toNat_natCast, Int.reduceToNat, addI] at hb); (try replace hb := of_decide_eq_true hb); (try replace hb := of_decide_eq_false hb)))
      | (refine W.go TOK 33 hΓ 1000 rfl ?_; (conv => whnf); refine ⟨?_, ?_⟩)
    all_goals (repeat' apply And.intro)
    all_goals try (first
      | exact trivial
      | exact rfl
      | exact fun _ _ => A.sim.refl _
      | exact A.sim.refl _
      | exact Nat.le_refl _
      | omega
      | exact fun _ _ => trivial
      | exact fun i _ => shift_sim _ _ i
      | exact fun _ h => absurd h (Nat.not_lt_zero _)
      | exact fun i _ => isInt_byteAt _ i
      | (simp only [allP, List.nil_append, List.append_nil, List.cons_append, List.append_eq, and_true, true_and, inr_i64, inr_u8, inr_u64, min_i64, max_i64, min_u64, max_u64, min_u8, max_u8, A.purePL, A.pureP, A.sureP, A.surePL, Int.toNat_natCast, Int.reduceToNat, addI, cHi, cLo, hiN, loN, subO, addO, hasIdx, cond_true, cond_false]; first | done | omega | ((repeat' apply And.intro) <;> first | exact trivial | rfl | omega | decide))
      | exact decide_eq_false (by omega)
      )
  have e : mayE s v k = true := decide_eq_true ⟨h1, h2, h3, h4, h5, h6⟩
  rw [e]
  refine Does.intro (fn := Try.f55) Try.func55 rfl rfl fun Γ hΓ => ?_
  refine W.run TOK 33 hΓ 1000 ?_
  conv => whnf
  refine ⟨?_, ?_⟩
  repeat' first
    | assumption
    | exact Bool.noConfusion hb
    | exact absurd hb (by decide)
    | (exfalso; omega)
    | (refine W.retA TOK rfl ?_; (conv => whnf); refine ⟨rfl, rfl, rfl, rfl, rfl, rfl, ?_, ?_, ?_⟩)
    | (refine W.branch rfl (fun hb => ?_) (fun hb => ?_) <;> ((try simp only [decide_eq_true_eq, decide_eq_false_iff_not, Bool.not_eq_true', Bool.not_eq_false', Int.not_lt, Int.not_le, cond_true, cond_false, reduceCtorEq, Int.toNat_natCast, Int.reduceToNat, addI] at hb); (try replace hb := of_decide_eq_true hb); (try replace hb := of_decide_eq_false hb)))
    | (refine W.go TOK 33 hΓ 1000 rfl ?_; (conv => whnf); refine ⟨?_, ?_⟩)
  all_goals (repeat' apply And.intro)
  all_goals try (first
    | exact trivial
    | exact rfl
    | exact fun _ _ => A.sim.refl _
    | exact A.sim.refl _
    | exact Nat.le_refl _
    | omega
    | exact fun _ _ => trivial
    | exact fun i _ => shift_sim _ _ i
    | exact fun _ h => absurd h (Nat.not_lt_zero _)
    | exact fun i _ => isInt_byteAt _ i
    | (simp only [allP, List.nil_append, List.append_nil, List.cons_append, List.append_eq, and_true, true_and, inr_i64, inr_u8, inr_u64, min_i64, max_i64, min_u64, max_u64, min_u8, max_u8, A.purePL, A.pureP, A.sureP, A.surePL, Int.toNat_natCast, Int.reduceToNat, addI, cHi, cLo, hiN, loN, subO, addO, hasIdx, cond_true, cond_false]; first | done | omega | ((repeat' apply And.intro) <;> first | exact trivial | rfl | omega | decide))
    | exact decide_eq_true (by omega)
    )

theorem entry_does (u : Upd) : Does Try.prog 56 [updA u] [] [] (Is (entA u.name u.ver u.key) []) := by
  refine Does.intro (fn := Try.f56) Try.func56 rfl rfl fun Γ hΓ => ?_
  refine W.run TOK 10 hΓ 1000 ?_
  conv => whnf
  refine ⟨?_, ?_⟩
  repeat' first
    | assumption
    | exact Bool.noConfusion hb
    | exact absurd hb (by decide)
    | (refine W.retA TOK rfl ?_; (conv => whnf); refine ⟨rfl, rfl, rfl, rfl, rfl, rfl, ?_, ?_, ?_⟩)
    | (refine W.branch rfl (fun hb => ?_) (fun hb => ?_) <;> ((try simp only [decide_eq_true_eq, decide_eq_false_iff_not, Bool.not_eq_true', Bool.not_eq_false', Int.not_lt, Int.not_le, cond_true, cond_false, reduceCtorEq, Int.toNat_natCast, Int.reduceToNat, addI] at hb); (try replace hb := of_decide_eq_true hb); (try replace hb := of_decide_eq_false hb)))
    | (refine W.go TOK 10 hΓ 1000 rfl ?_; (conv => whnf); refine ⟨?_, ?_⟩)
  all_goals (repeat' apply And.intro)
  all_goals try (first
    | exact trivial
    | exact rfl
    | exact fun _ _ => A.sim.refl _
    | exact A.sim.refl _
    | exact Nat.le_refl _
    | omega
    | exact fun _ _ => trivial
    | exact fun i _ => shift_sim _ _ i
    | exact fun _ h => absurd h (Nat.not_lt_zero _)
    | exact fun i _ => isInt_byteAt _ i
    | (simp only [allP, List.nil_append, List.append_nil, List.cons_append, List.append_eq, and_true, true_and, inr_i64, inr_u8, inr_u64, min_i64, max_i64, min_u64, max_u64, min_u8, max_u8, A.purePL, A.pureP, A.sureP, A.surePL, Int.toNat_natCast, Int.reduceToNat, addI, cHi, cLo, hiN, loN, subO, addO, hasIdx, cond_true, cond_false]; first | done | omega | ((repeat' apply And.intro) <;> first | exact trivial | rfl | omega | decide))
    )

theorem updright_does (u : Upd) : Does Try.prog 30 [updA u] [] [] (Is (.bool (updRight u)) []) := by
  rw [updRight_eq]
  have ce := entry_does u
  have cm := may_does u.name u.ver u.key
  generalize mayE u.name u.ver u.key = m at cm ⊢
  cases m with
  | false =>
    rw [Bool.false_and]
    refine Does.intro (fn := Try.f30) Try.func30 rfl rfl fun Γ hΓ => ?_
    refine W.run TOK 16 hΓ 1000 ?_
    conv => whnf
    refine ⟨?_, ?_⟩
    repeat' first
      | assumption
      | exact Bool.noConfusion hb
      | exact absurd hb (by decide)
      | (exfalso; omega)
      | (exfalso; simp at hb; done)
      | (refine W.retA TOK rfl ?_; (conv => whnf); refine ⟨rfl, rfl, rfl, rfl, rfl, rfl, ?_, ?_, ?_⟩)
      | (refine W.branch rfl (fun hb => ?_) (fun hb => ?_) <;> ((try simp only [decide_eq_true_eq, decide_eq_false_iff_not, Bool.not_eq_true', Bool.not_eq_false', Int.not_lt, Int.not_le, cond_true, cond_false, reduceCtorEq, Int.toNat_natCast, Int.reduceToNat, addI] at hb); (try replace hb := of_decide_eq_true hb); (try replace hb := of_decide_eq_false hb)))
      | (refine W.callA (ce) rfl rfl rfl rfl hΓ rfl ?_; (conv => whnf); refine ⟨rfl, rfl, ?_, ?_, ?_, ?_⟩; iterate 3 (focus ((repeat' apply And.intro) <;> first | exact trivial | (intro i _; rw [Nat.zero_add]; exact A.sim.refl _) | with_reducible exact rfl | exact fun _ _ => A.sim.refl _ | exact A.sim.refl _ | exact rfl | exact Nat.le_refl _ | omega | exact fun i _ => shift_sim _ _ i | exact fun _ _ => trivial | exact fun _ h => absurd h (Nat.not_lt_zero _) | exact ⟨rfl, rfl, rfl⟩ | exact ⟨rfl, rfl, rfl, rfl, ⟨rfl, rfl⟩⟩ | ((repeat' apply And.intro) <;> rfl))); (conv => whnf))
      | (refine W.callA (cm) rfl rfl rfl rfl hΓ rfl ?_; (conv => whnf); refine ⟨rfl, rfl, ?_, ?_, ?_, ?_⟩; iterate 3 (focus ((repeat' apply And.intro) <;> first | exact trivial | (intro i _; rw [Nat.zero_add]; exact A.sim.refl _) | with_reducible exact rfl | exact fun _ _ => A.sim.refl _ | exact A.sim.refl _ | exact rfl | exact Nat.le_refl _ | omega | exact fun i _ => shift_sim _ _ i | exact fun _ _ => trivial | exact fun _ h => absurd h (Nat.not_lt_zero _) | exact ⟨rfl, rfl, rfl⟩ | exact ⟨rfl, rfl, rfl, rfl, ⟨rfl, rfl⟩⟩ | ((repeat' apply And.intro) <;> rfl))); (conv => whnf))
      | (refine W.go TOK 16 hΓ 1000 rfl ?_; (conv => whnf); refine ⟨?_, ?_⟩)
    all_goals (repeat' apply And.intro)
    all_goals try (first
      | exact trivial
      | exact rfl
      | exact fun _ _ => A.sim.refl _
      | exact A.sim.refl _
      | exact Nat.le_refl _
      | omega
      | exact fun _ _ => trivial
      | exact fun i _ => shift_sim _ _ i
      | exact fun _ h => absurd h (Nat.not_lt_zero _)
      | exact fun i _ => isInt_byteAt _ i
      | (simp only [allP, List.nil_append, List.append_nil, List.cons_append, List.append_eq, and_true, true_and, inr_i64, inr_u8, inr_u64, min_i64, max_i64, min_u64, max_u64, min_u8, max_u8, A.purePL, A.pureP, A.sureP, A.surePL, Int.toNat_natCast, Int.reduceToNat, addI, cHi, cLo, hiN, loN, subO, addO, hasIdx, cond_true, cond_false]; first | done | omega | ((repeat' apply And.intro) <;> first | exact trivial | rfl | omega | decide))
      )
  | true =>
    rw [Bool.true_and]
    by_cases h0 : u.cls = 0
    · rw [decide_eq_true (.inl h0)]
      refine Does.intro (fn := Try.f30) Try.func30 rfl rfl fun Γ hΓ => ?_
      refine W.run TOK 16 hΓ 1000 ?_
      conv => whnf
      refine ⟨?_, ?_⟩
      repeat' first
        | assumption
        | exact Bool.noConfusion hb
        | exact absurd hb (by decide)
        | (exfalso; omega)
        | (exfalso; simp at hb; done)
        | (refine W.retA TOK rfl ?_; (conv => whnf); refine ⟨rfl, rfl, rfl, rfl, rfl, rfl, ?_, ?_, ?_⟩)
        | (refine W.branch rfl (fun hb => ?_) (fun hb => ?_) <;> ((try simp only [decide_eq_true_eq, decide_eq_false_iff_not, Bool.not_eq_true', Bool.not_eq_false', Int.not_lt, Int.not_le, cond_true, cond_false, reduceCtorEq, Int.toNat_natCast, Int.reduceToNat, addI] at hb); (try replace hb := of_decide_eq_true hb); (try replace hb := of_decide_eq_false hb)))
        | (refine W.callA (ce) rfl rfl rfl rfl hΓ rfl ?_; (conv => whnf); refine ⟨rfl, rfl, ?_, ?_, ?_, ?_⟩; iterate 3 (focus ((repeat' apply And.intro) <;> first | exact trivial | (intro i _; rw [Nat.zero_add]; exact A.sim.refl _) | with_reducible exact rfl | exact fun _ _ => A.sim.refl _ | exact A.sim.refl _ | exact rfl | exact Nat.le_refl _ | omega | exact fun i _ => shift_sim _ _ i | exact fun _ _ => trivial | exact fun _ h => absurd h (Nat.not_lt_zero _) | exact ⟨rfl, rfl, rfl⟩ | exact ⟨rfl, rfl, rfl, rfl, ⟨rfl, rfl⟩⟩ | ((repeat' apply And.intro) <;> rfl))); (conv => whnf))
        | (refine W.callA (cm) rfl rfl rfl rfl hΓ rfl ?_; (conv => whnf); refine ⟨rfl, rfl, ?_, ?_, ?_, ?_⟩; iterate 3 (focus ((repeat' apply And.intro) <;> first | exact trivial | (intro i _; rw [Nat.zero_add]; exact A.sim.refl _) | with_reducible exact rfl | exact fun _ _ => A.sim.refl _ | exact A.sim.refl _ | exact rfl | exact Nat.le_refl _ | omega | exact fun i _ => shift_sim _ _ i | exact fun _ _ => trivial | exact fun _ h => absurd h (Nat.not_lt_zero _) | exact ⟨rfl, rfl, rfl⟩ | exact ⟨rfl, rfl, rfl, rfl, ⟨rfl, rfl⟩⟩ | ((repeat' apply And.intro) <;> rfl))); (conv => whnf))
        | (refine W.go TOK 16 hΓ 1000 rfl ?_; (conv => whnf); refine ⟨?_, ?_⟩)
      all_goals (repeat' apply And.intro)
      all_goals try (first
        | exact trivial
        | exact rfl
        | exact fun _ _ => A.sim.refl _
        | exact A.sim.refl _
        | exact Nat.le_refl _
        | omega
        | exact fun _ _ => trivial
        | exact fun i _ => shift_sim _ _ i
        | exact fun _ h => absurd h (Nat.not_lt_zero _)
        | exact fun i _ => isInt_byteAt _ i
        | (simp only [allP, List.nil_append, List.append_nil, List.cons_append, List.append_eq, and_true, true_and, inr_i64, inr_u8, inr_u64, min_i64, max_i64, min_u64, max_u64, min_u8, max_u8, A.purePL, A.pureP, A.sureP, A.surePL, Int.toNat_natCast, Int.reduceToNat, addI, cHi, cLo, hiN, loN, subO, addO, hasIdx, cond_true, cond_false]; first | done | omega | ((repeat' apply And.intro) <;> first | exact trivial | rfl | omega | decide))
        )
    · by_cases h1 : u.cls = 1
      · rw [decide_eq_true (.inr h1)]
        refine Does.intro (fn := Try.f30) Try.func30 rfl rfl fun Γ hΓ => ?_
        refine W.run TOK 16 hΓ 1000 ?_
        conv => whnf
        refine ⟨?_, ?_⟩
        repeat' first
          | assumption
          | exact Bool.noConfusion hb
          | exact absurd hb (by decide)
          | (exfalso; omega)
          | (exfalso; simp at hb; done)
          | (refine W.retA TOK rfl ?_; (conv => whnf); refine ⟨rfl, rfl, rfl, rfl, rfl, rfl, ?_, ?_, ?_⟩)
          | (refine W.branch rfl (fun hb => ?_) (fun hb => ?_) <;> ((try simp only [decide_eq_true_eq, decide_eq_false_iff_not, Bool.not_eq_true', Bool.not_eq_false', Int.not_lt, Int.not_le, cond_true, cond_false, reduceCtorEq, Int.toNat_natCast, Int.reduceToNat, addI] at hb); (try replace hb := of_decide_eq_true hb); (try replace hb := of_decide_eq_false hb)))
          | (refine W.callA (ce) rfl rfl rfl rfl hΓ rfl ?_; (conv => whnf); refine ⟨rfl, rfl, ?_, ?_, ?_, ?_⟩; iterate 3 (focus ((repeat' apply And.intro) <;> first | exact trivial | (intro i _; rw [Nat.zero_add]; exact A.sim.refl _) | with_reducible exact rfl | exact fun _ _ => A.sim.refl _ | exact A.sim.refl _ | exact rfl | exact Nat.le_refl _ | omega | exact fun i _ => shift_sim _ _ i | exact fun _ _ => trivial | exact fun _ h => absurd h (Nat.not_lt_zero _) | exact ⟨rfl, rfl, rfl⟩ | exact ⟨rfl, rfl, rfl, rfl, ⟨rfl, rfl⟩⟩ | ((repeat' apply And.intro) <;> rfl))); (conv => whnf))
          | (refine W.callA (cm) rfl rfl rfl rfl hΓ rfl ?_; (conv => whnf); refine ⟨rfl, rfl, ?_, ?_, ?_, ?_⟩; iterate 3 (focus ((repeat' apply And.intro) <;> first | exact trivial | (intro i _; rw [Nat.zero_add]; exact A.sim.refl _) | with_reducible exact rfl | exact fun _ _ => A.sim.refl _ | exact A.sim.refl _ | exact rfl | exact Nat.le_refl _ | omega | exact fun i _ => shift_sim _ _ i | exact fun _ _ => trivial | exact fun _ h => absurd h (Nat.not_lt_zero _) | exact ⟨rfl, rfl, rfl⟩ | exact ⟨rfl, rfl, rfl, rfl, ⟨rfl, rfl⟩⟩ | ((repeat' apply And.intro) <;> rfl))); (conv => whnf))
          | (refine W.go TOK 16 hΓ 1000 rfl ?_; (conv => whnf); refine ⟨?_, ?_⟩)
        all_goals (repeat' apply And.intro)
        all_goals try (first
          | exact trivial
          | exact rfl
          | exact fun _ _ => A.sim.refl _
          | exact A.sim.refl _
          | exact Nat.le_refl _
          | omega
          | exact fun _ _ => trivial
          | exact fun i _ => shift_sim _ _ i
          | exact fun _ h => absurd h (Nat.not_lt_zero _)
          | exact fun i _ => isInt_byteAt _ i
          | (simp only [allP, List.nil_append, List.append_nil, List.cons_append, List.append_eq, and_true, true_and, inr_i64, inr_u8, inr_u64, min_i64, max_i64, min_u64, max_u64, min_u8, max_u8, A.purePL, A.pureP, A.sureP, A.surePL, Int.toNat_natCast, Int.reduceToNat, addI, cHi, cLo, hiN, loN, subO, addO, hasIdx, cond_true, cond_false]; first | done | omega | ((repeat' apply And.intro) <;> first | exact trivial | rfl | omega | decide))
          | exact decide_eq_true h1
          )
      · rw [decide_eq_false (fun h => h.elim h0 h1)]
        refine Does.intro (fn := Try.f30) Try.func30 rfl rfl fun Γ hΓ => ?_
        refine W.run TOK 16 hΓ 1000 ?_
        conv => whnf
        refine ⟨?_, ?_⟩
        repeat' first
          | assumption
          | exact Bool.noConfusion hb
          | exact absurd hb (by decide)
          | (exfalso; omega)
          | (exfalso; simp at hb; done)
          | (refine W.retA TOK rfl ?_; (conv => whnf); refine ⟨rfl, rfl, rfl, rfl, rfl, rfl, ?_, ?_, ?_⟩)
          | (refine W.branch rfl (fun hb => ?_) (fun hb => ?_) <;> ((try simp only [decide_eq_true_eq, decide_eq_false_iff_not, Bool.not_eq_true', Bool.not_eq_false', Int.not_lt, Int.not_le, cond_true, cond_false, reduceCtorEq, Int.toNat_natCast, Int.reduceToNat, addI] at hb); (try replace hb := of_decide_eq_true hb); (try replace hb := of_decide_eq_false hb)))
          | (refine W.callA (ce) rfl rfl rfl rfl hΓ rfl ?_; (conv => whnf); refine ⟨rfl, rfl, ?_, ?_, ?_, ?_⟩; iterate 3 (focus ((repeat' apply And.intro) <;> first | exact trivial | (intro i _; rw [Nat.zero_add]; exact A.sim.refl _) | with_reducible exact rfl | exact fun _ _ => A.sim.refl _ | exact A.sim.refl _ | exact rfl | exact Nat.le_refl _ | omega | exact fun i _ => shift_sim _ _ i | exact fun _ _ => trivial | exact fun _ h => absurd h (Nat.not_lt_zero _) | exact ⟨rfl, rfl, rfl⟩ | exact ⟨rfl, rfl, rfl, rfl, ⟨rfl, rfl⟩⟩ | ((repeat' apply And.intro) <;> rfl))); (conv => whnf))
          | (refine W.callA (cm) rfl rfl rfl rfl hΓ rfl ?_; (conv => whnf); refine ⟨rfl, rfl, ?_, ?_, ?_, ?_⟩; iterate 3 (focus ((repeat' apply And.intro) <;> first | exact trivial | (intro i _; rw [Nat.zero_add]; exact A.sim.refl _) | with_reducible exact rfl | exact fun _ _ => A.sim.refl _ | exact A.sim.refl _ | exact rfl | exact Nat.le_refl _ | omega | exact fun i _ => shift_sim _ _ i | exact fun _ _ => trivial | exact fun _ h => absurd h (Nat.not_lt_zero _) | exact ⟨rfl, rfl, rfl⟩ | exact ⟨rfl, rfl, rfl, rfl, ⟨rfl, rfl⟩⟩ | ((repeat' apply And.intro) <;> rfl))); (conv => whnf))
          | (refine W.go TOK 16 hΓ 1000 rfl ?_; (conv => whnf); refine ⟨?_, ?_⟩)
        all_goals (repeat' apply And.intro)
        all_goals try (first
          | exact trivial
          | exact rfl
          | exact fun _ _ => A.sim.refl _
          | exact A.sim.refl _
          | exact Nat.le_refl _
          | omega
          | exact fun _ _ => trivial
          | exact fun i _ => shift_sim _ _ i
          | exact fun _ h => absurd h (Nat.not_lt_zero _)
          | exact fun i _ => isInt_byteAt _ i
          | (simp only [allP, List.nil_append, List.append_nil, List.cons_append, List.append_eq, and_true, true_and, inr_i64, inr_u8, inr_u64, min_i64, max_i64, min_u64, max_u64, min_u8, max_u8, A.purePL, A.pureP, A.sureP, A.surePL, Int.toNat_natCast, Int.reduceToNat, addI, cHi, cLo, hiN, loN, subO, addO, hasIdx, cond_true, cond_false]; first | done | omega | ((repeat' apply And.intro) <;> first | exact trivial | rfl | omega | decide))
          | exact decide_eq_false h1
          )

theorem unear_does (n : Int) (h : inr .u64 n) : Does Try.prog 60 [.int .u64 n] [] [] (Is (.int .i64 (nearV n)) []) := by
  rw [inr_u64] at h
  unfold nearV
  by_cases h1 : 1073741824 < n
  · rw [if_pos h1]
    refine Does.intro (fn := Try.f60) Try.func60 rfl rfl fun Γ hΓ => ?_
    refine W.run TOK 7 hΓ 1000 ?_
    conv => whnf
    refine ⟨?_, ?_⟩
    repeat' first
      | assumption
      | exact Bool.noConfusion hb
      | exact absurd hb (by decide)
      | (exfalso; omega)
      | (refine W.retA TOK rfl ?_; (conv => whnf); refine ⟨rfl, rfl, rfl, rfl, rfl, rfl, ?_, ?_, ?_⟩)
      | (refine W.branch rfl (fun hb => ?_) (fun hb => ?_) <;> ((try simp only [decide_eq_true_eq, decide_eq_false_iff_not, Bool.not_eq_true', Bool.not_eq_false', Int.not_lt, Int.not_le, cond_true, cond_false, reduceCtorEq, Int.toNat_natCast, Int.reduceToNat, addI] at hb); (try replace hb := of_decide_eq_true hb); (try replace hb := of_decide_eq_false hb)))
      | (refine W.go TOK 7 hΓ 1000 rfl ?_; (conv => whnf); refine ⟨?_, ?_⟩)
    all_goals (repeat' apply And.intro)
    all_goals try (first
      | exact trivial
      | exact rfl
      | exact fun _ _ => A.sim.refl _
      | exact A.sim.refl _
      | exact Nat.le_refl _
      | omega
      | exact fun _ _ => trivial
      | exact fun i _ => shift_sim _ _ i
      | exact fun _ h => absurd h (Nat.not_lt_zero _)
      | exact fun i _ => isInt_byteAt _ i
      | (simp only [allP, List.nil_append, List.append_nil, List.cons_append, List.append_eq, and_true, true_and, inr_i64, inr_u8, inr_u64, min_i64, max_i64, min_u64, max_u64, min_u8, max_u8, A.purePL, A.pureP, A.sureP, A.surePL, Int.toNat_natCast, Int.reduceToNat, addI, cHi, cLo, hiN, loN, subO, addO, hasIdx, cond_true, cond_false]; first | done | omega | ((repeat' apply And.intro) <;> first | exact trivial | rfl | omega | decide))
      )
  · rw [if_neg h1]
    have hw : IntKind.i64.wrap n = n := wrap_i64_in (by omega) (by omega)
    refine Does.intro (fn := Try.f60) Try.func60 rfl rfl fun Γ hΓ => ?_
    refine W.run TOK 7 hΓ 1000 ?_
    conv => whnf
    refine ⟨?_, ?_⟩
    repeat' first
      | assumption
      | exact Bool.noConfusion hb
      | exact absurd hb (by decide)
      | (exfalso; omega)
      | (refine W.retA TOK rfl ?_; (conv => whnf); refine ⟨rfl, rfl, rfl, rfl, rfl, rfl, ?_, ?_, ?_⟩)
      | (refine W.branch rfl (fun hb => ?_) (fun hb => ?_) <;> ((try simp only [decide_eq_true_eq, decide_eq_false_iff_not, Bool.not_eq_true', Bool.not_eq_false', Int.not_lt, Int.not_le, cond_true, cond_false, reduceCtorEq, Int.toNat_natCast, Int.reduceToNat, addI] at hb); (try replace hb := of_decide_eq_true hb); (try replace hb := of_decide_eq_false hb)))
      | (refine W.go TOK 7 hΓ 1000 rfl ?_; (conv => whnf); refine ⟨?_, ?_⟩)
    all_goals (repeat' apply And.intro)
    all_goals try (first
      | exact trivial
      | exact rfl
      | exact fun _ _ => A.sim.refl _
      | exact A.sim.refl _
      | exact Nat.le_refl _
      | omega
      | exact fun _ _ => trivial
      | exact fun i _ => shift_sim _ _ i
      | exact fun _ h => absurd h (Nat.not_lt_zero _)
      | exact fun i _ => isInt_byteAt _ i
      | exact hw
      | (simp only [allP, List.nil_append, List.append_nil, List.cons_append, List.append_eq, and_true, true_and, inr_i64, inr_u8, inr_u64, min_i64, max_i64, min_u64, max_u64, min_u8, max_u8, A.purePL, A.pureP, A.sureP, A.surePL, Int.toNat_natCast, Int.reduceToNat, addI, cHi, cLo, hiN, loN, subO, addO, hasIdx, cond_true, cond_false]; first | done | omega | ((repeat' apply And.intro) <;> first | exact trivial | rfl | omega | decide))
      )

theorem jnear_does (n : Int) (h : inr .u64 n) : Does Try.prog 34 [.int .u64 n] [] [] (Is (.int .i64 (nearT n)) []) := by
  rw [inr_u64] at h
  unfold nearT
  by_cases h1 : 1152921504606846976 < n
  · rw [if_pos h1]
    refine Does.intro (fn := Try.f34) Try.func34 rfl rfl fun Γ hΓ => ?_
    refine W.run TOK 7 hΓ 1000 ?_
    conv => whnf
    refine ⟨?_, ?_⟩
    repeat' first
      | assumption
      | exact Bool.noConfusion hb
      | exact absurd hb (by decide)
      | (exfalso; omega)
      | (refine W.retA TOK rfl ?_; (conv => whnf); refine ⟨rfl, rfl, rfl, rfl, rfl, rfl, ?_, ?_, ?_⟩)
      | (refine W.branch rfl (fun hb => ?_) (fun hb => ?_) <;> ((try simp only [decide_eq_true_eq, decide_eq_false_iff_not, Bool.not_eq_true', Bool.not_eq_false', Int.not_lt, Int.not_le, cond_true, cond_false, reduceCtorEq, Int.toNat_natCast, Int.reduceToNat, addI] at hb); (try replace hb := of_decide_eq_true hb); (try replace hb := of_decide_eq_false hb)))
      | (refine W.go TOK 7 hΓ 1000 rfl ?_; (conv => whnf); refine ⟨?_, ?_⟩)
    all_goals (repeat' apply And.intro)
    all_goals try (first
      | exact trivial
      | exact rfl
      | exact fun _ _ => A.sim.refl _
      | exact A.sim.refl _
      | exact Nat.le_refl _
      | omega
      | exact fun _ _ => trivial
      | exact fun i _ => shift_sim _ _ i
      | exact fun _ h => absurd h (Nat.not_lt_zero _)
      | exact fun i _ => isInt_byteAt _ i
      | (simp only [allP, List.nil_append, List.append_nil, List.cons_append, List.append_eq, and_true, true_and, inr_i64, inr_u8, inr_u64, min_i64, max_i64, min_u64, max_u64, min_u8, max_u8, A.purePL, A.pureP, A.sureP, A.surePL, Int.toNat_natCast, Int.reduceToNat, addI, cHi, cLo, hiN, loN, subO, addO, hasIdx, cond_true, cond_false]; first | done | omega | ((repeat' apply And.intro) <;> first | exact trivial | rfl | omega | decide))
      )
  · rw [if_neg h1]
    have hw : IntKind.i64.wrap n = n := wrap_i64_in (by omega) (by omega)
    refine Does.intro (fn := Try.f34) Try.func34 rfl rfl fun Γ hΓ => ?_
    refine W.run TOK 7 hΓ 1000 ?_
    conv => whnf
    refine ⟨?_, ?_⟩
    repeat' first
      | assumption
      | exact Bool.noConfusion hb
      | exact absurd hb (by decide)
      | (exfalso; omega)
      | (refine W.retA TOK rfl ?_; (conv => whnf); refine ⟨rfl, rfl, rfl, rfl, rfl, rfl, ?_, ?_, ?_⟩)
      | (refine W.branch rfl (fun hb => ?_) (fun hb => ?_) <;> ((try simp only [decide_eq_true_eq, decide_eq_false_iff_not, Bool.not_eq_true', Bool.not_eq_false', Int.not_lt, Int.not_le, cond_true, cond_false, reduceCtorEq, Int.toNat_natCast, Int.reduceToNat, addI] at hb); (try replace hb := of_decide_eq_true hb); (try replace hb := of_decide_eq_false hb)))
      | (refine W.go TOK 7 hΓ 1000 rfl ?_; (conv => whnf); refine ⟨?_, ?_⟩)
    all_goals (repeat' apply And.intro)
    all_goals try (first
      | exact trivial
      | exact rfl
      | exact fun _ _ => A.sim.refl _
      | exact A.sim.refl _
      | exact Nat.le_refl _
      | omega
      | exact fun _ _ => trivial
      | exact fun i _ => shift_sim _ _ i
      | exact fun _ h => absurd h (Nat.not_lt_zero _)
      | exact fun i _ => isInt_byteAt _ i
      | exact hw
      | (simp only [allP, List.nil_append, List.append_nil, List.cons_append, List.append_eq, and_true, true_and, inr_i64, inr_u8, inr_u64, min_i64, max_i64, min_u64, max_u64, min_u8, max_u8, A.purePL, A.pureP, A.sureP, A.surePL, Int.toNat_natCast, Int.reduceToNat, addI, cHi, cLo, hiN, loN, subO, addO, hasIdx, cond_true, cond_false]; first | done | omega | ((repeat' apply And.intro) <;> first | exact trivial | rfl | omega | decide))
      )

def Tsg : Tab := { l := tabL, frz := [9] }
theorem TsgOK : TabOK Try.prog Tsg.l := tabOK
theorem sgput_does (r s : Int) (hr : inr .u64 r) (hs : inr .u64 s) : Does Try.prog 76 [.agg [.int .u64 r, .int .u64 s]] [] [1] (Is (.own 1 1 0 (sgB r s).length) [(1, some (.arr 1 (sgB r s).length (byteAt (sgB r s))))]) := by
  have hf : [numS r, numS s].flatten = sgB r s := by simp [sgB]
  have cj := join_does [numS r, numS s] (by show (2 : Nat) ≤ 1000000000000; decide) (by rw [hf, sgB_len]; omega)
  rw [hf] at cj
  refine Does.intro (fn := Try.f76) Try.func76 rfl rfl fun Γ hΓ => ?_
  refine W.run TsgOK 11 hΓ 1000 ?_
  conv => whnf
  refine ⟨?_, ?_⟩
  repeat' first
    | assumption
    | exact Bool.noConfusion hb
    | exact absurd hb (by decide)
    | (exfalso; omega)
    | (refine W.retA TsgOK rfl ?_; (conv => whnf); refine ⟨rfl, rfl, rfl, rfl, rfl, rfl, ?_, ?_, ?_⟩)
    | (refine W.branch rfl (fun hb => ?_) (fun hb => ?_) <;> ((try simp only [decide_eq_true_eq, decide_eq_false_iff_not, Bool.not_eq_true', Bool.not_eq_false', Int.not_lt, Int.not_le, cond_true, cond_false, reduceCtorEq, Int.toNat_natCast, Int.reduceToNat, addI] at hb); (try replace hb := of_decide_eq_true hb); (try replace hb := of_decide_eq_false hb)))
    | (refine D.branch rfl (fun hb => ?_) (fun hb => ?_) <;> ((try simp only [decide_eq_true_eq, decide_eq_false_iff_not, Bool.not_eq_true', Bool.not_eq_false', Int.not_lt, Int.not_le, cond_true, cond_false, reduceCtorEq, Int.toNat_natCast, Int.reduceToNat, addI] at hb); (try replace hb := of_decide_eq_true hb); (try replace hb := of_decide_eq_false hb)))
    | ((first | (refine D.callAZ (num_does r hr) rfl rfl rfl rfl hΓ rfl ?_; (conv => whnf); refine ⟨rfl, rfl, rfl, ?_, ?_, ?_, ?_, ?_⟩) | (refine W.callAZ (num_does r hr) rfl rfl rfl rfl hΓ rfl ?_; (conv => whnf); refine ⟨rfl, rfl, ?_, ?_, ?_, ?_, ?_⟩)); iterate 4 (focus ((repeat' apply And.intro) <;> first | exact trivial | (intro i _; rw [Nat.zero_add]; exact A.sim.refl _) | with_reducible exact rfl | exact fun _ _ => A.sim.refl _ | exact A.sim.refl _ | exact rfl | exact Nat.le_refl _ | omega | exact fun i _ => shift_sim _ _ i | exact fun _ _ => trivial | exact fun _ h => absurd h (Nat.not_lt_zero _) | exact sim2a (sim_roB (numS_length _).symm (fun _ _ => A.sim.refl _)) (sim_roB (numS_length _).symm (fun _ _ => A.sim.refl _)))); (conv => whnf))
    | ((first | (refine D.callAZ (num_does s hs) rfl rfl rfl rfl hΓ rfl ?_; (conv => whnf); refine ⟨rfl, rfl, rfl, ?_, ?_, ?_, ?_, ?_⟩) | (refine W.callAZ (num_does s hs) rfl rfl rfl rfl hΓ rfl ?_; (conv => whnf); refine ⟨rfl, rfl, ?_, ?_, ?_, ?_, ?_⟩)); iterate 4 (focus ((repeat' apply And.intro) <;> first | exact trivial | (intro i _; rw [Nat.zero_add]; exact A.sim.refl _) | with_reducible exact rfl | exact fun _ _ => A.sim.refl _ | exact A.sim.refl _ | exact rfl | exact Nat.le_refl _ | omega | exact fun i _ => shift_sim _ _ i | exact fun _ _ => trivial | exact fun _ h => absurd h (Nat.not_lt_zero _) | exact sim2a (sim_roB (numS_length _).symm (fun _ _ => A.sim.refl _)) (sim_roB (numS_length _).symm (fun _ _ => A.sim.refl _)))); (conv => whnf))
    | ((first | (refine D.callA (cj) rfl rfl rfl rfl hΓ rfl ?_; (conv => whnf); refine ⟨rfl, rfl, rfl, ?_, ?_, ?_, ?_⟩) | (refine W.callA (cj) rfl rfl rfl rfl hΓ rfl ?_; (conv => whnf); refine ⟨rfl, rfl, ?_, ?_, ?_, ?_⟩)); iterate 3 (focus ((repeat' apply And.intro) <;> first | exact trivial | (intro i _; rw [Nat.zero_add]; exact A.sim.refl _) | with_reducible exact rfl | exact fun _ _ => A.sim.refl _ | exact A.sim.refl _ | exact rfl | exact Nat.le_refl _ | omega | exact fun i _ => shift_sim _ _ i | exact fun _ _ => trivial | exact fun _ h => absurd h (Nat.not_lt_zero _) | exact sim2a (sim_roB (numS_length _).symm (fun _ _ => A.sim.refl _)) (sim_roB (numS_length _).symm (fun _ _ => A.sim.refl _)))); (conv => whnf))
    | (refine W.go TsgOK 11 hΓ 1000 rfl ?_; (conv => whnf); refine ⟨?_, ?_⟩)
    | (refine D.go TsgOK 11 hΓ 1000 rfl ?_; (conv => whnf); refine ⟨?_, ?_⟩)
    | (refine W.drawn rfl rfl ?_; refine D.run TsgOK 11 hΓ 1000 ?_; (conv => whnf); refine ⟨?_, ?_⟩)
  all_goals (repeat' apply And.intro)
  all_goals try (first
    | exact trivial
    | exact rfl
    | exact fun _ _ => A.sim.refl _
    | exact A.sim.refl _
    | exact Nat.le_refl _
    | omega
    | exact fun _ _ => trivial
    | exact fun i _ => shift_sim _ _ i
    | exact fun _ h => absurd h (Nat.not_lt_zero _)
    | exact fun i _ => isInt_byteAt _ i
    | (simp only [allP, List.nil_append, List.append_nil, List.cons_append, List.append_eq, and_true, true_and, inr_i64, inr_u8, inr_u64, min_i64, max_i64, min_u64, max_u64, min_u8, max_u8, A.purePL, A.pureP, A.sureP, A.surePL, Int.toNat_natCast, Int.reduceToNat, addI, cHi, cLo, hiN, loN, subO, addO, hasIdx, cond_true, cond_false]; first | done | omega | ((repeat' apply And.intro) <;> first | exact trivial | rfl | omega | decide))
    )

def Tup : Tab := { l := tabL, frz := [25] }
theorem TupOK : TabOK Try.prog Tup.l := tabOK
theorem uput_does (u : Upd) (hu : UpdOK u) : Does Try.prog 52 [updA u] [] [1] (Is (.tup [.own 1 1 0 (uputS u).1.length, .int .i64 (uputS u).2]) [(1, some (.arr 1 (uputS u).1.length (byteAt (uputS u).1)))]) := by
  have cr := updright_does u
  cases hr : updRight u with
  | false =>
    rw [hr] at cr
    rw [show uputS u = ([], 23) by unfold uputS; rw [hr]; rfl]
    refine Does.intro (fn := Try.f52) Try.func52 rfl rfl fun Γ hΓ => ?_
    refine W.run TupOK 27 hΓ 1000 ?_
    conv => whnf
    refine ⟨?_, ?_⟩
    repeat' first
      | assumption
      | exact Bool.noConfusion hb
      | exact absurd hb (by decide)
      | (exfalso; omega)
      | (exfalso; simp at hb; done)
      | (refine W.retA TupOK rfl ?_; (conv => whnf); refine ⟨rfl, rfl, rfl, rfl, rfl, rfl, ?_, ?_, ?_⟩)
      | (refine W.branch rfl (fun hb => ?_) (fun hb => ?_) <;> ((try simp only [decide_eq_true_eq, decide_eq_false_iff_not, Bool.not_eq_true', Bool.not_eq_false', Int.not_lt, Int.not_le, cond_true, cond_false, reduceCtorEq, Int.toNat_natCast, Int.reduceToNat, addI] at hb); (try replace hb := of_decide_eq_true hb); (try replace hb := of_decide_eq_false hb)))
      | (refine D.branch rfl (fun hb => ?_) (fun hb => ?_) <;> ((try simp only [decide_eq_true_eq, decide_eq_false_iff_not, Bool.not_eq_true', Bool.not_eq_false', Int.not_lt, Int.not_le, cond_true, cond_false, reduceCtorEq, Int.toNat_natCast, Int.reduceToNat, addI] at hb); (try replace hb := of_decide_eq_true hb); (try replace hb := of_decide_eq_false hb)))
      | ((first | (refine D.callA (cr) rfl rfl rfl rfl hΓ rfl ?_; (conv => whnf); refine ⟨rfl, rfl, rfl, ?_, ?_, ?_, ?_⟩) | (refine W.callA (cr) rfl rfl rfl rfl hΓ rfl ?_; (conv => whnf); refine ⟨rfl, rfl, ?_, ?_, ?_, ?_⟩)); iterate 3 (focus ((repeat' apply And.intro) <;> first | exact trivial | (intro i _; rw [Nat.zero_add]; exact A.sim.refl _) | with_reducible exact rfl | exact fun _ _ => A.sim.refl _ | exact A.sim.refl _ | exact rfl | exact Nat.le_refl _ | omega | exact fun i _ => shift_sim _ _ i | exact fun _ _ => trivial | exact fun _ h => absurd h (Nat.not_lt_zero _) | exact ⟨rfl, rfl, rfl⟩ | exact ⟨rfl, rfl, rfl, rfl, ⟨rfl, rfl⟩⟩ | ((repeat' apply And.intro) <;> rfl))); (conv => whnf))
      | (refine W.go TupOK 27 hΓ 1000 rfl ?_; (conv => whnf); refine ⟨?_, ?_⟩)
      | (refine D.go TupOK 27 hΓ 1000 rfl ?_; (conv => whnf); refine ⟨?_, ?_⟩)
      | (refine W.drawn rfl rfl ?_; refine D.run TupOK 27 hΓ 1000 ?_; (conv => whnf); refine ⟨?_, ?_⟩)
    all_goals (repeat' apply And.intro)
    all_goals try (first
      | exact trivial
      | exact rfl
      | exact fun _ _ => A.sim.refl _
      | exact A.sim.refl _
      | exact Nat.le_refl _
      | omega
      | exact fun _ _ => trivial
      | exact fun i _ => shift_sim _ _ i
      | exact fun _ h => absurd h (Nat.not_lt_zero _)
      | exact fun i _ => isInt_byteAt _ i
      | (simp only [allP, List.nil_append, List.append_nil, List.cons_append, List.append_eq, and_true, true_and, inr_i64, inr_u8, inr_u64, min_i64, max_i64, min_u64, max_u64, min_u8, max_u8, A.purePL, A.pureP, A.sureP, A.surePL, Int.toNat_natCast, Int.reduceToNat, addI, cHi, cLo, hiN, loN, subO, addO, hasIdx, cond_true, cond_false]; first | done | omega | ((repeat' apply And.intro) <;> first | exact trivial | rfl | omega | decide))
      )
  | true =>
    rw [hr] at cr
    obtain ⟨f1, f2, f3, f4, f5, f6, f7⟩ := updRight_facts hr
    rw [show uputS u = (uB u, 0) by unfold uputS; rw [hr]; rfl]
    have hl := uB_len u
    have hwv : IntKind.u64.wrap u.ver = u.ver := wrap_u64_in (by omega) (by omega)
    have hwc : IntKind.u64.wrap u.cls = u.cls := wrap_u64_in (by omega) (by omega)
    have hvu : inr .u64 u.ver := inr_u64.2 ⟨by omega, by omega⟩
    have hcu : inr .u64 u.cls := inr_u64.2 ⟨by omega, by omega⟩
    have hll := lumpS_length u.name
    have hsl := sgB_len u.r u.s
    have cj := join_does [lumpS u.name, numS u.ver, numS u.key, numS u.cls, sgB u.r u.s] (by show (5 : Nat) ≤ 1000000000000; decide) (by rw [uB_flat, hl]; omega)
    rw [uB_flat] at cj
    have cs := sgput_does u.r u.s hu.r hu.s
    refine Does.intro (fn := Try.f52) Try.func52 rfl rfl fun Γ hΓ => ?_
    refine W.run TupOK 27 hΓ 1000 ?_
    conv => whnf
    refine ⟨?_, ?_⟩
    repeat' first
      | assumption
      | exact Bool.noConfusion hb
      | exact absurd hb (by decide)
      | (exfalso; omega)
      | (exfalso; simp at hb; done)
      | (refine W.retA TupOK rfl ?_; (conv => whnf); refine ⟨rfl, rfl, rfl, rfl, rfl, rfl, ?_, ?_, ?_⟩)
      | (refine W.branch rfl (fun hb => ?_) (fun hb => ?_) <;> ((try simp only [decide_eq_true_eq, decide_eq_false_iff_not, Bool.not_eq_true', Bool.not_eq_false', Int.not_lt, Int.not_le, cond_true, cond_false, reduceCtorEq, Int.toNat_natCast, Int.reduceToNat, addI] at hb); (try replace hb := of_decide_eq_true hb); (try replace hb := of_decide_eq_false hb)))
      | (refine D.branch rfl (fun hb => ?_) (fun hb => ?_) <;> ((try simp only [decide_eq_true_eq, decide_eq_false_iff_not, Bool.not_eq_true', Bool.not_eq_false', Int.not_lt, Int.not_le, cond_true, cond_false, reduceCtorEq, Int.toNat_natCast, Int.reduceToNat, addI] at hb); (try replace hb := of_decide_eq_true hb); (try replace hb := of_decide_eq_false hb)))
      | ((first | (refine D.callA (cr) rfl rfl rfl rfl hΓ rfl ?_; (conv => whnf); refine ⟨rfl, rfl, rfl, ?_, ?_, ?_, ?_⟩) | (refine W.callA (cr) rfl rfl rfl rfl hΓ rfl ?_; (conv => whnf); refine ⟨rfl, rfl, ?_, ?_, ?_, ?_⟩)); iterate 3 (focus ((repeat' apply And.intro) <;> first | exact trivial | (intro i _; rw [Nat.zero_add]; exact A.sim.refl _) | with_reducible exact rfl | exact fun _ _ => A.sim.refl _ | exact A.sim.refl _ | exact rfl | exact Nat.le_refl _ | omega | exact fun i _ => shift_sim _ _ i | exact fun _ _ => trivial | exact fun _ h => absurd h (Nat.not_lt_zero _) | exact ⟨rfl, rfl, rfl⟩ | exact ⟨rfl, rfl, rfl, rfl, ⟨rfl, rfl⟩⟩ | ((repeat' apply And.intro) <;> rfl) | exact hwv | exact hwc | exact sim5a (sim_roB hll.symm (fun _ _ => A.sim.refl _)) (sim_roB (numS_length _).symm (fun _ _ => A.sim.refl _)) (sim_roB (numS_length _).symm (fun _ _ => A.sim.refl _)) (sim_roB (numS_length _).symm (fun _ _ => A.sim.refl _)) (sim_roB rfl (fun _ _ => A.sim.refl _)))); (conv => whnf))
      | ((first | (refine D.callAZ (lump_does u.name (by omega)) rfl rfl rfl rfl hΓ rfl ?_; (conv => whnf); refine ⟨rfl, rfl, rfl, ?_, ?_, ?_, ?_, ?_⟩) | (refine W.callAZ (lump_does u.name (by omega)) rfl rfl rfl rfl hΓ rfl ?_; (conv => whnf); refine ⟨rfl, rfl, ?_, ?_, ?_, ?_, ?_⟩)); iterate 4 (focus ((repeat' apply And.intro) <;> first | exact trivial | (intro i _; rw [Nat.zero_add]; exact A.sim.refl _) | with_reducible exact rfl | exact fun _ _ => A.sim.refl _ | exact A.sim.refl _ | exact rfl | exact Nat.le_refl _ | omega | exact fun i _ => shift_sim _ _ i | exact fun _ _ => trivial | exact fun _ h => absurd h (Nat.not_lt_zero _) | exact ⟨rfl, rfl, rfl⟩ | exact ⟨rfl, rfl, rfl, rfl, ⟨rfl, rfl⟩⟩ | ((repeat' apply And.intro) <;> rfl) | exact hwv | exact hwc | exact sim5a (sim_roB hll.symm (fun _ _ => A.sim.refl _)) (sim_roB (numS_length _).symm (fun _ _ => A.sim.refl _)) (sim_roB (numS_length _).symm (fun _ _ => A.sim.refl _)) (sim_roB (numS_length _).symm (fun _ _ => A.sim.refl _)) (sim_roB rfl (fun _ _ => A.sim.refl _)))); (conv => whnf))
      | ((first | (refine D.callAZ (num_does u.ver hvu) rfl rfl rfl rfl hΓ rfl ?_; (conv => whnf); refine ⟨rfl, rfl, rfl, ?_, ?_, ?_, ?_, ?_⟩) | (refine W.callAZ (num_does u.ver hvu) rfl rfl rfl rfl hΓ rfl ?_; (conv => whnf); refine ⟨rfl, rfl, ?_, ?_, ?_, ?_, ?_⟩)); iterate 4 (focus ((repeat' apply And.intro) <;> first | exact trivial | (intro i _; rw [Nat.zero_add]; exact A.sim.refl _) | with_reducible exact rfl | exact fun _ _ => A.sim.refl _ | exact A.sim.refl _ | exact rfl | exact Nat.le_refl _ | omega | exact fun i _ => shift_sim _ _ i | exact fun _ _ => trivial | exact fun _ h => absurd h (Nat.not_lt_zero _) | exact ⟨rfl, rfl, rfl⟩ | exact ⟨rfl, rfl, rfl, rfl, ⟨rfl, rfl⟩⟩ | ((repeat' apply And.intro) <;> rfl) | exact hwv | exact hwc | exact sim5a (sim_roB hll.symm (fun _ _ => A.sim.refl _)) (sim_roB (numS_length _).symm (fun _ _ => A.sim.refl _)) (sim_roB (numS_length _).symm (fun _ _ => A.sim.refl _)) (sim_roB (numS_length _).symm (fun _ _ => A.sim.refl _)) (sim_roB rfl (fun _ _ => A.sim.refl _)))); (conv => whnf))
      | ((first | (refine D.callAZ (num_does u.key hu.key) rfl rfl rfl rfl hΓ rfl ?_; (conv => whnf); refine ⟨rfl, rfl, rfl, ?_, ?_, ?_, ?_, ?_⟩) | (refine W.callAZ (num_does u.key hu.key) rfl rfl rfl rfl hΓ rfl ?_; (conv => whnf); refine ⟨rfl, rfl, ?_, ?_, ?_, ?_, ?_⟩)); iterate 4 (focus ((repeat' apply And.intro) <;> first | exact trivial | (intro i _; rw [Nat.zero_add]; exact A.sim.refl _) | with_reducible exact rfl | exact fun _ _ => A.sim.refl _ | exact A.sim.refl _ | exact rfl | exact Nat.le_refl _ | omega | exact fun i _ => shift_sim _ _ i | exact fun _ _ => trivial | exact fun _ h => absurd h (Nat.not_lt_zero _) | exact ⟨rfl, rfl, rfl⟩ | exact ⟨rfl, rfl, rfl, rfl, ⟨rfl, rfl⟩⟩ | ((repeat' apply And.intro) <;> rfl) | exact hwv | exact hwc | exact sim5a (sim_roB hll.symm (fun _ _ => A.sim.refl _)) (sim_roB (numS_length _).symm (fun _ _ => A.sim.refl _)) (sim_roB (numS_length _).symm (fun _ _ => A.sim.refl _)) (sim_roB (numS_length _).symm (fun _ _ => A.sim.refl _)) (sim_roB rfl (fun _ _ => A.sim.refl _)))); (conv => whnf))
      | ((first | (refine D.callAZ (num_does u.cls hcu) rfl rfl rfl rfl hΓ rfl ?_; (conv => whnf); refine ⟨rfl, rfl, rfl, ?_, ?_, ?_, ?_, ?_⟩) | (refine W.callAZ (num_does u.cls hcu) rfl rfl rfl rfl hΓ rfl ?_; (conv => whnf); refine ⟨rfl, rfl, ?_, ?_, ?_, ?_, ?_⟩)); iterate 4 (focus ((repeat' apply And.intro) <;> first | exact trivial | (intro i _; rw [Nat.zero_add]; exact A.sim.refl _) | with_reducible exact rfl | exact fun _ _ => A.sim.refl _ | exact A.sim.refl _ | exact rfl | exact Nat.le_refl _ | omega | exact fun i _ => shift_sim _ _ i | exact fun _ _ => trivial | exact fun _ h => absurd h (Nat.not_lt_zero _) | exact ⟨rfl, rfl, rfl⟩ | exact ⟨rfl, rfl, rfl, rfl, ⟨rfl, rfl⟩⟩ | ((repeat' apply And.intro) <;> rfl) | exact hwv | exact hwc | exact sim5a (sim_roB hll.symm (fun _ _ => A.sim.refl _)) (sim_roB (numS_length _).symm (fun _ _ => A.sim.refl _)) (sim_roB (numS_length _).symm (fun _ _ => A.sim.refl _)) (sim_roB (numS_length _).symm (fun _ _ => A.sim.refl _)) (sim_roB rfl (fun _ _ => A.sim.refl _)))); (conv => whnf))
      | ((first | (refine D.callAZ (cs) rfl rfl rfl rfl hΓ rfl ?_; (conv => whnf); refine ⟨rfl, rfl, rfl, ?_, ?_, ?_, ?_, ?_⟩) | (refine W.callAZ (cs) rfl rfl rfl rfl hΓ rfl ?_; (conv => whnf); refine ⟨rfl, rfl, ?_, ?_, ?_, ?_, ?_⟩)); iterate 4 (focus ((repeat' apply And.intro) <;> first | exact trivial | (intro i _; rw [Nat.zero_add]; exact A.sim.refl _) | with_reducible exact rfl | exact fun _ _ => A.sim.refl _ | exact A.sim.refl _ | exact rfl | exact Nat.le_refl _ | omega | exact fun i _ => shift_sim _ _ i | exact fun _ _ => trivial | exact fun _ h => absurd h (Nat.not_lt_zero _) | exact ⟨rfl, rfl, rfl⟩ | exact ⟨rfl, rfl, rfl, rfl, ⟨rfl, rfl⟩⟩ | ((repeat' apply And.intro) <;> rfl) | exact hwv | exact hwc | exact sim5a (sim_roB hll.symm (fun _ _ => A.sim.refl _)) (sim_roB (numS_length _).symm (fun _ _ => A.sim.refl _)) (sim_roB (numS_length _).symm (fun _ _ => A.sim.refl _)) (sim_roB (numS_length _).symm (fun _ _ => A.sim.refl _)) (sim_roB rfl (fun _ _ => A.sim.refl _)))); (conv => whnf))
      | ((first | (refine D.callA (cj) rfl rfl rfl rfl hΓ rfl ?_; (conv => whnf); refine ⟨rfl, rfl, rfl, ?_, ?_, ?_, ?_⟩) | (refine W.callA (cj) rfl rfl rfl rfl hΓ rfl ?_; (conv => whnf); refine ⟨rfl, rfl, ?_, ?_, ?_, ?_⟩)); iterate 3 (focus ((repeat' apply And.intro) <;> first | exact trivial | (intro i _; rw [Nat.zero_add]; exact A.sim.refl _) | with_reducible exact rfl | exact fun _ _ => A.sim.refl _ | exact A.sim.refl _ | exact rfl | exact Nat.le_refl _ | omega | exact fun i _ => shift_sim _ _ i | exact fun _ _ => trivial | exact fun _ h => absurd h (Nat.not_lt_zero _) | exact ⟨rfl, rfl, rfl⟩ | exact ⟨rfl, rfl, rfl, rfl, ⟨rfl, rfl⟩⟩ | ((repeat' apply And.intro) <;> rfl) | exact hwv | exact hwc | exact sim5a (sim_roB hll.symm (fun _ _ => A.sim.refl _)) (sim_roB (numS_length _).symm (fun _ _ => A.sim.refl _)) (sim_roB (numS_length _).symm (fun _ _ => A.sim.refl _)) (sim_roB (numS_length _).symm (fun _ _ => A.sim.refl _)) (sim_roB rfl (fun _ _ => A.sim.refl _)))); (conv => whnf))
      | (refine W.go TupOK 27 hΓ 1000 rfl ?_; (conv => whnf); refine ⟨?_, ?_⟩)
      | (refine D.go TupOK 27 hΓ 1000 rfl ?_; (conv => whnf); refine ⟨?_, ?_⟩)
      | (refine W.drawn rfl rfl ?_; refine D.run TupOK 27 hΓ 1000 ?_; (conv => whnf); refine ⟨?_, ?_⟩)
    all_goals (repeat' apply And.intro)
    all_goals try (first
      | exact trivial
      | exact rfl
      | exact fun _ _ => A.sim.refl _
      | exact A.sim.refl _
      | exact Nat.le_refl _
      | omega
      | exact fun _ _ => trivial
      | exact fun i _ => shift_sim _ _ i
      | exact fun _ h => absurd h (Nat.not_lt_zero _)
      | exact fun i _ => isInt_byteAt _ i
      | (simp only [allP, List.nil_append, List.append_nil, List.cons_append, List.append_eq, and_true, true_and, inr_i64, inr_u8, inr_u64, min_i64, max_i64, min_u64, max_u64, min_u8, max_u8, A.purePL, A.pureP, A.sureP, A.surePL, Int.toNat_natCast, Int.reduceToNat, addI, cHi, cLo, hiN, loN, subO, addO, hasIdx, cond_true, cond_false]; first | done | omega | ((repeat' apply And.intro) <;> first | exact trivial | rfl | omega | decide))
      )

end Go.Proofs.Ytpgjheokcdpgjaa
