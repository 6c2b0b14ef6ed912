/- Walks through functions of the program, and what they come to. -/
import Derived.Test.YtfmoafpnhndinaaTab
import Derived.Test.YtfmoafpnhndinaaRows
import Derived.Test.YtfmoafpnhndinaaVxG
set_option linter.unusedSimpArgs false
set_option linter.unusedVariables false
namespace Go.Proofs.Ytfmoafpnhndinaa
open VX
set_option maxRecDepth 100000
set_option maxHeartbeats 4000000

def rounds (n c : Int) : Int := max n 0 / 8 + max c 0
theorem rounds_does (n c : Int) (h : n ≤ 9223372036854775807 ∧ -9223372036854775808 ≤ c ∧ c ≤ 1099511627776) : Does Try.prog 10 [.int .i64 n, .int .i64 c] [] [] (Is (.int .i64 (rounds n c)) []) := by
  refine Does.intro (fn := Try.f10) Try.func10 rfl rfl fun Γ hΓ => ?_
  refine W.run TOK 11 hΓ 1000 ?_
  conv => whnf
  refine ⟨?_, W.atRet (π := []) TOK ⟨rfl, rfl, rfl, rfl, ⟨rfl, rfl⟩, trivial, And.intro rfl ?_, trivial⟩⟩
  · simp only [allP, List.nil_append, List.append_nil, List.cons_append, inr_i64, and_true]
    omega
  · unfold rounds; omega

theorem refRounds_does (n c : Int) (h : n ≤ 9223372036854775807 ∧ -9223372036854775808 ≤ c ∧ c ≤ 1099511627776) : Does Try.prog 11 [.int .i64 n, .int .i64 c] [] [] (Is (.int .i64 (rounds n c)) []) := by
  refine Does.intro (fn := Try.f11) Try.func11 rfl rfl fun Γ hΓ => ?_
  refine W.run TOK 11 hΓ 1000 ?_
  conv => whnf
  refine ⟨?_, W.atRet (π := []) TOK ⟨rfl, rfl, rfl, rfl, ⟨rfl, rfl⟩, trivial, And.intro rfl ?_, trivial⟩⟩
  · simp only [allP, List.nil_append, List.append_nil, List.cons_append, inr_i64, and_true]
    omega
  · unfold rounds; omega

def due (now last n near : Int) : Int :=
  if n < 1 then 0 else if 8 ≤ n then 1 else if last < now ∧ 2 ≤ now - last then 2 else if near ≤ now ∨ near - now ≤ 16 then 3 else 0

theorem due_does (now last n near : Int) (h1 : inr .i64 now) (h2 : inr .i64 last) (h3 : inr .i64 n) (h4 : inr .i64 near) : Does Try.prog 8 [.int .i64 now, .int .i64 last, .int .i64 n, .int .i64 near] [] [] (Is (.int .i64 (due now last n near)) []) := by
  refine Does.intro (fn := Try.f8) Try.func8 rfl rfl fun Γ hΓ => ?_
  refine W.run TwOK 39 hΓ 1000 ?_
  conv => whnf
  refine ⟨trivial, ?_⟩
  repeat' first
    | (apply W.atRet (π := []) TwOK; refine ⟨rfl, rfl, rfl, rfl, ⟨rfl, rfl⟩, trivial, And.intro rfl ?_, trivial⟩)
    | (refine W.branch rfl (fun hb => ?_) (fun hb => ?_))
    | (refine W.go TwOK 39 hΓ 1000 rfl ?_; (conv => whnf); refine ⟨trivial, ?_⟩)
  all_goals try simp only [inr_i64, wrap_u64, decide_eq_true_eq, decide_eq_false_iff_not, cond_true, cond_false, reduceCtorEq] at *
  all_goals
    unfold due
    repeat' split
  all_goals omega

def over (a b n : Int) : Bool := decide (n ≤ a - b)
theorem over_does (a b n : Int) (h1 : inr .i64 a) (h2 : inr .i64 b) (h3 : 0 ≤ n ∧ n ≤ 1000) : Does Try.prog 13 [.int .i64 a, .int .i64 b, .int .i64 n] [] [] (Is (.bool (over a b n)) []) := by
  refine Does.intro (fn := Try.f13) Try.func13 rfl rfl fun Γ hΓ => ?_
  refine W.run TwOK 35 hΓ 1000 ?_
  conv => whnf
  refine ⟨trivial, ?_⟩
  repeat' first
    | (apply W.atRet (π := []) TwOK; refine ⟨rfl, rfl, rfl, rfl, ⟨rfl, rfl⟩, trivial, ?_, trivial⟩; change _ = _)
    | (refine W.branch rfl (fun hb => ?_) (fun hb => ?_))
    | (refine W.go TwOK 35 hΓ 1000 rfl ?_; (conv => whnf); refine ⟨trivial, ?_⟩)
  all_goals try simp only [inr_i64, wrap_u64, wrap_i64, decide_eq_true_eq, decide_eq_false_iff_not, cond_true, cond_false, reduceCtorEq] at *
  all_goals
    unfold over
    first
      | (refine (decide_eq_decide.2 ?_); constructor <;> intro hh <;> (repeat' split at hh) <;> (repeat' split) <;> omega)
      | (symm; refine decide_eq_false ?_; omega)

theorem cut_does (now last n near : Int) (h1 : inr .i64 now) (h2 : inr .i64 last) (h3 : inr .i64 n) (h4 : inr .i64 near) : Does Try.prog 9 [.int .i64 now, .int .i64 last, .int .i64 n, .int .i64 near] [] [] (Is (.int .i64 (due now last n near)) []) := by
  refine Does.intro (fn := Try.f9) Try.func9 rfl rfl fun Γ hΓ => ?_
  refine W.run TwOK 24 hΓ 1000 ?_
  conv => whnf
  refine ⟨trivial, ?_⟩
  repeat' first
    | assumption
    | (apply W.atRet (π := []) TwOK; refine ⟨rfl, rfl, rfl, rfl, ⟨rfl, rfl⟩, trivial, And.intro rfl ?_, trivial⟩)
    | (refine W.branch rfl (fun hb => ?_) (fun hb => ?_))
    | (refine W.callF (over_does _ _ _ ?_ ?_ ?_) rfl rfl rfl rfl [] [] [] rfl rfl hΓ rfl ⟨⟨rfl, rfl⟩, ⟨rfl, rfl⟩, ⟨rfl, rfl⟩, trivial⟩ trivial (.inl rfl) ?_)
    | (refine W.go TwOK 24 hΓ 1000 rfl ?_; (conv => whnf); refine ⟨trivial, ?_⟩)
  all_goals try simp only [inr_i64, over, decide_eq_true_eq, decide_eq_false_iff_not, cond_true, cond_false, reduceCtorEq, Bool.not_eq_true', Bool.not_eq_false'] at *
  all_goals first
    | (unfold due; (repeat' split) <;> omega)
    | omega

theorem bound_does : Does Try.prog 12 [] [] [] (Is (.int .i64 16) []) := by
  refine Does.intro (fn := Try.f12) Try.func12 rfl rfl fun Γ hΓ => ?_
  refine W.run TwOK 4 hΓ 1000 ?_
  conv => whnf
  refine ⟨?_, ?_⟩
  repeat' first
    | assumption
    | exact Bool.noConfusion hb
    | exact absurd hb (by decide)
    | (apply W.atRet (π := []) (r' := []) TwOK; refine ⟨rfl, rfl, rfl, rfl, ⟨rfl, rfl⟩, trivial, ?_, trivial⟩; first | refine And.intro rfl ?_ | change _ = _)
    | (refine W.branch rfl (fun hb => ?_) (fun hb => ?_))
    | (refine W.callF (due_does _ _ _ _ ?_ ?_ ?_ ?_) rfl rfl rfl rfl [] [] [] rfl rfl hΓ rfl ⟨⟨rfl, rfl⟩, ⟨rfl, rfl⟩, ⟨rfl, rfl⟩, ⟨rfl, rfl⟩, trivial⟩ trivial (.inl rfl) ?_)
    | (refine W.callF (rounds_does _ _ ?_) rfl rfl rfl rfl [] [] [] rfl rfl hΓ rfl ⟨⟨rfl, rfl⟩, ⟨rfl, rfl⟩, trivial⟩ trivial (.inl rfl) ?_)
    | (refine W.go TwOK 4 hΓ 1000 rfl ?_; (conv => whnf); refine ⟨?_, ?_⟩)
  all_goals first
    | exact trivial
    | decide
    | (unfold rounds; decide)

theorem known_does : Does Try.prog 7 [] [] [] (Is (.bool true) []) := by
  refine Does.intro (fn := Try.f7) Try.func7 rfl rfl fun Γ hΓ => ?_
  refine W.run TwOK 27 hΓ 1000 ?_
  conv => whnf
  refine ⟨?_, ?_⟩
  repeat' first
    | assumption
    | exact Bool.noConfusion hb
    | exact absurd hb (by decide)
    | (apply W.atRet (π := []) (r' := []) TwOK; refine ⟨rfl, rfl, rfl, rfl, ⟨rfl, rfl⟩, trivial, ?_, trivial⟩; first | refine And.intro rfl ?_ | change _ = _)
    | (refine W.branch rfl (fun hb => ?_) (fun hb => ?_))
    | (refine W.callF (due_does _ _ _ _ ?_ ?_ ?_ ?_) rfl rfl rfl rfl [] [] [] rfl rfl hΓ rfl ⟨⟨rfl, rfl⟩, ⟨rfl, rfl⟩, ⟨rfl, rfl⟩, ⟨rfl, rfl⟩, trivial⟩ trivial (.inl rfl) ?_)
    | (refine W.callF (rounds_does _ _ ?_) rfl rfl rfl rfl [] [] [] rfl rfl hΓ rfl ⟨⟨rfl, rfl⟩, ⟨rfl, rfl⟩, trivial⟩ trivial (.inl rfl) ?_)
    | (refine W.callF (bound_does) rfl rfl rfl rfl [] [] [] rfl rfl hΓ rfl trivial trivial (.inl rfl) ?_)
    | (refine W.go TwOK 27 hΓ 1000 rfl ?_; (conv => whnf); refine ⟨?_, ?_⟩)
  all_goals first
    | exact trivial
    | decide
    | (rw [inr_i64]; omega)

theorem kinds_does (n a c d : Int) (h1 : inr .u32 n) (h2 : inr .u8 a) (h3 : inr .u8 c) (h4 : inr .u8 d) : Does Try.prog 5 [.int .u32 n, .int .u8 a, .int .u8 c, .int .u8 d] [] [] Yes := by
  refine Does.intro (fn := Try.f5) Try.func5 rfl rfl fun Γ hΓ => ?_
  refine W.run TOK 52 hΓ 1000 ?_
  conv => whnf
  refine ⟨?_, ?_⟩
  repeat' first
    | assumption
    | exact Bool.noConfusion hb
    | exact absurd hb (by decide)
    | (apply W.atRet (π := []) (r' := []) TOK; refine ⟨rfl, rfl, rfl, rfl, rfl, trivial, ?_, trivial⟩; first | refine And.intro rfl ?_ | change _ = _)
    | (refine W.branch rfl (fun hb => ?_) (fun hb => ?_))
    | (refine W.callF (due_does _ _ _ _ ?_ ?_ ?_ ?_) rfl rfl rfl rfl [] [] [] rfl rfl hΓ rfl ⟨⟨rfl, rfl⟩, ⟨rfl, rfl⟩, ⟨rfl, rfl⟩, ⟨rfl, rfl⟩, trivial⟩ trivial (.inl rfl) ?_)
    | (refine W.callF (rounds_does _ _ ?_) rfl rfl rfl rfl [] [] [] rfl rfl hΓ rfl ⟨⟨rfl, rfl⟩, ⟨rfl, rfl⟩, trivial⟩ trivial (.inl rfl) ?_)
    | (refine W.callF (bound_does) rfl rfl rfl rfl [] [] [] rfl rfl hΓ rfl trivial trivial (.inl rfl) ?_)
    | (refine W.callF (known_does) rfl rfl rfl rfl [] [] [] rfl rfl hΓ rfl trivial trivial (.inl rfl) ?_)
    | (refine W.go TOK 52 hΓ 1000 rfl ?_; (conv => whnf); refine ⟨?_, ?_⟩)
  all_goals try simp only [allP, List.nil_append, List.append_nil, List.cons_append, inr_i64, inr_u8, inr_u32, wrap_i64, decide_eq_true_eq, decide_eq_false_iff_not, cond_true, cond_false, reduceCtorEq, Bool.not_eq_true', Bool.not_eq_false', and_true] at *
  all_goals first
    | omega
    | (unfold due; (repeat' split) <;> omega)

theorem crounds_does (n m a b : Int) (h1 : inr .u16 n) (h2 : inr .u16 m) (h3 : inr .u8 a) (h4 : inr .u8 b) : Does Try.prog 6 [.int .u16 n, .int .u16 m, .int .u8 a, .int .u8 b] [] [] Yes := by
  refine Does.intro (fn := Try.f6) Try.func6 rfl rfl fun Γ hΓ => ?_
  refine W.run TOK 73 hΓ 1000 ?_
  conv => whnf
  refine ⟨?_, ?_⟩
  repeat' first
    | assumption
    | exact Bool.noConfusion hb
    | exact absurd hb (by decide)
    | (apply W.atRet (π := []) (r' := []) TOK; refine ⟨rfl, rfl, rfl, rfl, rfl, trivial, ?_, trivial⟩; first | refine And.intro rfl ?_ | change _ = _)
    | (refine W.branch rfl (fun hb => ?_) (fun hb => ?_))
    | (refine W.callF (due_does _ _ _ _ ?_ ?_ ?_ ?_) rfl rfl rfl rfl [] [] [] rfl rfl hΓ rfl ⟨⟨rfl, rfl⟩, ⟨rfl, rfl⟩, ⟨rfl, rfl⟩, ⟨rfl, rfl⟩, trivial⟩ trivial (.inl rfl) ?_)
    | (refine W.callF (rounds_does _ _ ?_) rfl rfl rfl rfl [] [] [] rfl rfl hΓ rfl ⟨⟨rfl, rfl⟩, ⟨rfl, rfl⟩, trivial⟩ trivial (.inl rfl) ?_)
    | (refine W.callF (bound_does) rfl rfl rfl rfl [] [] [] rfl rfl hΓ rfl trivial trivial (.inl rfl) ?_)
    | (refine W.callF (known_does) rfl rfl rfl rfl [] [] [] rfl rfl hΓ rfl trivial trivial (.inl rfl) ?_)
    | (refine W.go TOK 73 hΓ 1000 rfl ?_; (conv => whnf); refine ⟨?_, ?_⟩)
  all_goals try simp only [allP, List.nil_append, List.append_nil, List.cons_append, inr_i64, inr_u8, inr_u16, wrap_i64, decide_eq_true_eq, decide_eq_false_iff_not, cond_true, cond_false, reduceCtorEq, Bool.not_eq_true', Bool.not_eq_false', and_true] at *
  all_goals first
    | omega
    | (unfold rounds; (repeat' split) <;> omega)
    | (simp only [rounds] at *; omega)

theorem cutKinds_law (x0 x1 x2 x3 : A) (s0 : Shaped (.int .u32) x0) (s1 : Shaped (.int .u8) x1) (s2 : Shaped (.int .u8) x2) (s3 : Shaped (.int .u8) x3) : Does Try.prog 5 [x0, x1, x2, x3] [] [] Yes := by
  obtain ⟨n0, rfl, h0⟩ := s0
  obtain ⟨n1, rfl, h1⟩ := s1
  obtain ⟨n2, rfl, h2⟩ := s2
  obtain ⟨n3, rfl, h3⟩ := s3
  exact kinds_does n0 n1 n2 n3 h0 h1 h2 h3
theorem cutRounds_law (x0 x1 x2 x3 : A) (s0 : Shaped (.int .u16) x0) (s1 : Shaped (.int .u16) x1) (s2 : Shaped (.int .u8) x2) (s3 : Shaped (.int .u8) x3) : Does Try.prog 6 [x0, x1, x2, x3] [] [] Yes := by
  obtain ⟨n0, rfl, h0⟩ := s0
  obtain ⟨n1, rfl, h1⟩ := s1
  obtain ⟨n2, rfl, h2⟩ := s2
  obtain ⟨n3, rfl, h3⟩ := s3
  exact crounds_does n0 n1 n2 n3 h0 h1 h2 h3
end Go.Proofs.Ytfmoafpnhndinaa
