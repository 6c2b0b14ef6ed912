/- Walks: lumps, texts, sums, tags. -/
import Derived.Test.YtflkdkclmmnocaaBn1W
set_option linter.unusedSimpArgs false
set_option linter.unusedVariables false
namespace Go.Proofs.Ytflkdkclmmnocaa
open VX
set_option maxRecDepth 100000
set_option maxHeartbeats 4000000

theorem lump_does (l : List UInt8) (h : l.length ≤ 1000000000000) : Does Try.prog 8 [bytesA l] [] [1] (Is (.own 1 1 0 (8 + l.length)) [(1, some (.arr 1 (8 + l.length) (byteAt (lumpS l))))]) := by
  have hw : IntKind.u64.wrap ((l.length : Nat) : Int) = ((l.length : Nat) : Int) := wrap_u64_in (by omega) (by omega)
  refine Does.intro (fn := Try.f8) Try.func8 rfl rfl fun Γ hΓ => ?_
  refine W.run TOK 9 hΓ 1000 ?_
  conv => whnf
  refine ⟨?_, ?_⟩
  repeat' first
    | assumption
    | exact Bool.noConfusion hb
    | exact absurd hb (by decide)
    | (apply W.atRet (π := [(1, 8)]) (r' := [(1, some (.arr 1 (8 + l.length) (byteAt (lumpS l))))]) TOK; refine ⟨rfl, rfl, rfl, rfl, ⟨rfl, rfl⟩, ?_, ?_, ?_⟩)
    | (refine W.branch rfl (fun hb => ?_) (fun hb => ?_) <;> ((try simp only [decide_eq_true_eq, decide_eq_false_iff_not, Bool.not_eq_true', Bool.not_eq_false', Int.not_lt, Int.not_le, cond_true, cond_false, reduceCtorEq, Int.toNat_natCast, addI] at hb); (try replace hb := of_decide_eq_true hb); (try replace hb := of_decide_eq_false hb)))
    | (refine D.branch rfl (fun hb => ?_) (fun hb => ?_) <;> ((try simp only [decide_eq_true_eq, decide_eq_false_iff_not, Bool.not_eq_true', Bool.not_eq_false', Int.not_lt, Int.not_le, cond_true, cond_false, reduceCtorEq, Int.toNat_natCast, addI] at hb); (try replace hb := of_decide_eq_true hb); (try replace hb := of_decide_eq_false hb)))
    | (refine D.callF (num_does ((l.length : Nat) : Int) ?_) rfl rfl rfl rfl [] [] [6] rfl rfl hΓ rfl ⟨⟨rfl, hw⟩, trivial⟩ trivial (.inl rfl) rfl ?_; (conv => whnf))
    | (refine W.callF (num_does ((l.length : Nat) : Int) ?_) rfl rfl rfl rfl [] [] [6] rfl rfl hΓ rfl ⟨⟨rfl, hw⟩, trivial⟩ trivial (.inl rfl) ?_)
    | (refine W.go TOK 9 hΓ 1000 rfl ?_; (conv => whnf); refine ⟨?_, ?_⟩)
    | (refine D.go TOK 9 hΓ 1000 rfl ?_; (conv => whnf); refine ⟨?_, ?_⟩)
    | (refine W.drawn rfl rfl ?_; refine D.run TOK 9 hΓ 1000 ?_; (conv => whnf); refine ⟨?_, ?_⟩)
  all_goals try (exact inr_u64.2 ⟨by omega, by omega⟩)
  all_goals try (exact trivial)
  all_goals try (exact rfl)
  all_goals try omega
  all_goals try (first
    | (simp only [allP, List.nil_append, List.append_nil, List.cons_append, List.append_eq, and_true, true_and, inr_i64, inr_u8, inr_u64, A.purePL, A.pureP, A.sureP, A.surePL, Int.toNat_natCast, addI, cHi, cLo, hiN, loN, subO, addO, hasIdx, cond_true, cond_false]; done)
    | (simp only [allP, List.nil_append, List.append_nil, List.cons_append, List.append_eq, and_true, true_and, inr_i64, inr_u8, inr_u64, A.purePL, A.pureP, A.sureP, A.surePL, Int.toNat_natCast, addI, cHi, cLo, hiN, loN, subO, addO, hasIdx, cond_true, cond_false]; omega)
    | (simp only [allP, List.nil_append, List.append_nil, List.cons_append, List.append_eq, and_true, true_and, inr_i64, inr_u8, inr_u64, A.purePL, A.pureP, A.sureP, A.surePL, Int.toNat_natCast, addI, cHi, cLo, hiN, loN, subO, addO, hasIdx, cond_true, cond_false]; (repeat' apply And.intro) <;> first | exact trivial | rfl | omega | decide))
  all_goals try (exact ⟨rfl, rfl, rfl, rfl⟩)
  all_goals try (exact ⟨⟨rfl, Nat.le_refl _, fun j hj => cat_sim (l := numS _) (m := l) (by rw [numS_length]) (fun _ _ => rfl) (fun _ _ => rfl) hj⟩, trivial⟩)

theorem rlump_does (l : List UInt8) (h : l.length ≤ 1000000000000) : Does Try.prog 9 [bytesA l] [] [1] (Is (.own 1 1 0 (8 + l.length)) [(1, some (.arr 1 (8 + l.length) (byteAt (lumpS l))))]) := by
  have hw : IntKind.u64.wrap ((l.length : Nat) : Int) = ((l.length : Nat) : Int) := wrap_u64_in (by omega) (by omega)
  refine Does.intro (fn := Try.f9) Try.func9 rfl rfl fun Γ hΓ => ?_
  refine W.run TOK 9 hΓ 1000 ?_
  conv => whnf
  refine ⟨?_, ?_⟩
  repeat' first
    | assumption
    | exact Bool.noConfusion hb
    | exact absurd hb (by decide)
    | (apply W.atRet (π := [(1, 8)]) (r' := [(1, some (.arr 1 (8 + l.length) (byteAt (lumpS l))))]) TOK; refine ⟨rfl, rfl, rfl, rfl, ⟨rfl, rfl⟩, ?_, ?_, ?_⟩)
    | (refine W.branch rfl (fun hb => ?_) (fun hb => ?_) <;> ((try simp only [decide_eq_true_eq, decide_eq_false_iff_not, Bool.not_eq_true', Bool.not_eq_false', Int.not_lt, Int.not_le, cond_true, cond_false, reduceCtorEq, Int.toNat_natCast, addI] at hb); (try replace hb := of_decide_eq_true hb); (try replace hb := of_decide_eq_false hb)))
    | (refine D.branch rfl (fun hb => ?_) (fun hb => ?_) <;> ((try simp only [decide_eq_true_eq, decide_eq_false_iff_not, Bool.not_eq_true', Bool.not_eq_false', Int.not_lt, Int.not_le, cond_true, cond_false, reduceCtorEq, Int.toNat_natCast, addI] at hb); (try replace hb := of_decide_eq_true hb); (try replace hb := of_decide_eq_false hb)))
    | (refine D.callF (rnum_does ((l.length : Nat) : Int) ?_) rfl rfl rfl rfl [] [] [6] rfl rfl hΓ rfl ⟨⟨rfl, hw⟩, trivial⟩ trivial (.inl rfl) rfl ?_; (conv => whnf))
    | (refine W.callF (rnum_does ((l.length : Nat) : Int) ?_) rfl rfl rfl rfl [] [] [6] rfl rfl hΓ rfl ⟨⟨rfl, hw⟩, trivial⟩ trivial (.inl rfl) ?_)
    | (refine W.go TOK 9 hΓ 1000 rfl ?_; (conv => whnf); refine ⟨?_, ?_⟩)
    | (refine D.go TOK 9 hΓ 1000 rfl ?_; (conv => whnf); refine ⟨?_, ?_⟩)
    | (refine W.drawn rfl rfl ?_; refine D.run TOK 9 hΓ 1000 ?_; (conv => whnf); refine ⟨?_, ?_⟩)
  all_goals try (exact inr_u64.2 ⟨by omega, by omega⟩)
  all_goals try (exact trivial)
  all_goals try (exact rfl)
  all_goals try omega
  all_goals try (first
    | (simp only [allP, List.nil_append, List.append_nil, List.cons_append, List.append_eq, and_true, true_and, inr_i64, inr_u8, inr_u64, A.purePL, A.pureP, A.sureP, A.surePL, Int.toNat_natCast, addI, cHi, cLo, hiN, loN, subO, addO, hasIdx, cond_true, cond_false]; done)
    | (simp only [allP, List.nil_append, List.append_nil, List.cons_append, List.append_eq, and_true, true_and, inr_i64, inr_u8, inr_u64, A.purePL, A.pureP, A.sureP, A.surePL, Int.toNat_natCast, addI, cHi, cLo, hiN, loN, subO, addO, hasIdx, cond_true, cond_false]; omega)
    | (simp only [allP, List.nil_append, List.append_nil, List.cons_append, List.append_eq, and_true, true_and, inr_i64, inr_u8, inr_u64, A.purePL, A.pureP, A.sureP, A.surePL, Int.toNat_natCast, addI, cHi, cLo, hiN, loN, subO, addO, hasIdx, cond_true, cond_false]; (repeat' apply And.intro) <;> first | exact trivial | rfl | omega | decide))
  all_goals try (exact ⟨rfl, rfl, rfl, rfl⟩)
  all_goals try (exact ⟨⟨rfl, Nat.le_refl _, fun j hj => cat_sim (l := numS _) (m := l) (by rw [numS_length]) (fun _ _ => rfl) (fun _ _ => rfl) hj⟩, trivial⟩)

end Go.Proofs.Ytflkdkclmmnocaa
