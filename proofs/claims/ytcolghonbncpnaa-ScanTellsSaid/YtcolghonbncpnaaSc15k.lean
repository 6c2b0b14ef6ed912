/- Walks: keys and signatures of the reference. -/
import Derived.Test.YtcolghonbncpnaaSc15V
import Derived.Test.YtcolghonbncpnaaPlB
import Derived.Test.YtcolghonbncpnaaVxI
set_option linter.unusedSimpArgs false
set_option linter.unusedVariables false
namespace Go.Proofs.Ytcolghonbncpnaa
open VX
set_option maxRecDepth 100000
set_option maxHeartbeats 4000000
theorem qSc15k1 {P : Prop} (h : P := by (focus ((repeat' apply And.intro) <;> first | exact qlf0 | exact hw2))) : P := h
theorem qSc15k2 {P : Prop} (h : P := by first | exact qcl0 | exact hwa | exact hwo | exact qsm0) : P := h
theorem qSc15k3 {P : Prop} (h : P := by
  refine Does.intro (fn := Try.f87) Try.func87 rfl rfl fun Γ hΓ => ?_
  refine W.run TOK 6 hΓ 1000 ?_
  conv => whnf
  refine ⟨?_, ?_⟩
  repeat' first
    | assumption
    | exact Bool.noConfusion hb
    | exact absurd hb (by decide)
    | (exfalso; omega)
    | (refine W.retA TOK rfl ?_; (conv => whnf); refine ⟨rfl, rfl, rfl, rfl, rfl, rfl, ?_, ?_, ?_⟩)
    | (refine W.branch rfl (fun hb => ?_) (fun hb => ?_) <;> ((try simp only [qhb, addI, reduceCtorEq, Int.reduceToNat] at hb); (try replace hb := of_decide_eq_true hb); (try replace hb := of_decide_eq_false hb)))
    | (refine W.go TOK 6 hΓ 1000 rfl ?_; (conv => whnf); refine ⟨?_, ?_⟩)
  all_goals (repeat' apply And.intro)
  all_goals try exact qcs0) : P := h
theorem modulus_does (m : Int) : Does Try.prog 87 [.int .u64 m] [] [] (Is (.int .u64 (modS m)) []) := by
  unfold modS
  by_cases h : m = 2305843009213693950
  · rw [if_pos h]
    exact qSc15k3
  · rw [if_neg h]
    exact qSc15k3
theorem rmul_does (a b m : Int) (ha : inr .u64 a) (hb9 : inr .u64 b) : Does Try.prog 75 [.int .u64 a, .int .u64 b, .int .u64 m] [] [] (Is (.int .u64 (mulS a b m)) []) := by
  have cm := modulus_does m
  have hM := modS_bd m
  have ha1 := inr_u64.1 ha
  have hb1 := inr_u64.1 hb9
  have hma := mod_bd a (M := modS m) (by omega)
  have hmb := mod_bd b (M := modS m) (by omega)
  have hR0 : mulF (modS m) 64 (a % modS m) (b % modS m) 0 = mulS a b m := rfl
  generalize mulS a b m = R at hR0 ⊢
  generalize modS m = M at *
  refine Does.intro (fn := Try.f75) Try.func75 rfl rfl fun Γ hΓ => ?_
  refine W.run TOK 34 hΓ 1000 ?_
  conv => whnf
  refine ⟨?_, ?_⟩
  repeat' first
    | assumption
    | exact Bool.noConfusion hb
    | exact absurd hb (by decide)
    | (exfalso; omega)
    | ((first | refine W.branch rfl (fun hb => ?_) (fun hb => ?_) | refine D.branch rfl (fun hb => ?_) (fun hb => ?_)) <;> ((try simp only [qhb, addI, reduceCtorEq, Int.reduceToNat] at hb); (try replace hb := of_decide_eq_true hb); (try replace hb := of_decide_eq_false hb)))
    | ((first | (refine D.callA (cm) rfl rfl rfl rfl hΓ rfl ?_; (conv => whnf); refine ⟨rfl, rfl, rfl, ?_, ?_, ?_, ?_⟩) | (refine W.callA (cm) rfl rfl rfl rfl hΓ rfl ?_; (conv => whnf); refine ⟨rfl, rfl, ?_, ?_, ?_, ?_⟩)); iterate 3 exact qlf1; (conv => whnf))
    | (refine W.go TOK 34 hΓ 1000 rfl ?_; (conv => whnf); refine ⟨?_, ?_⟩)
    | (refine D.go TOK 34 hΓ 1000 rfl ?_; (conv => whnf); refine ⟨?_, ?_⟩)
    | (refine W.drawn rfl rfl ?_; refine D.run TOK 34 hΓ 1000 ?_; (conv => whnf); refine ⟨?_, ?_⟩)
  all_goals (repeat' apply And.intro)
  all_goals try exact qcs0
  refine W.loopA (Nat × Int × Int × Int) (fun x => mulF M x.1 x.2.1 x.2.2.1 x.2.2.2 = R ∧ (0 ≤ x.2.1 ∧ x.2.1 < M) ∧ (0 ≤ x.2.2.1 ∧ x.2.2.1 < 2 ^ x.1) ∧ (0 ≤ x.2.2.2 ∧ x.2.2.2 < M)) (fun x => x.1) (fun x => [(0, .int .u64 x.2.1), (1, .int .u64 x.2.2.1), (7, .int .u64 x.2.2.2)]) (fun x => []) [] ((64, a % M, b % M, 0)) (⟨hR0, hma, ⟨hmb.1, show b % M < 2 ^ 64 by omega⟩, ⟨Int.le_refl _, show (0 : Int) < M by omega⟩⟩) ?_
  (conv => whnf); refine ⟨?_, ?_⟩; focus ((conv => whnf); refine ⟨rfl, rfl, rfl, rfl, rfl, rfl, ?_, ?_⟩; iterate 2 exact qlf1)
  rintro x ⟨hR, ha0, hb0, ho0⟩ ih
  obtain ⟨n, a, b, o⟩ := x
  simp only at hR ha0 hb0 ho0
  by_cases hbz : 0 < b
  rotate_left
  · have : b = 0 := by omega
    subst this
    have ho : o = R := by rw [← hR]; cases n <;> rfl
    subst ho
    clear ih
    repeat' first
      | assumption
      | exact Bool.noConfusion hb
      | exact absurd hb (by decide)
      | (exfalso; omega)
      | (refine W.retA TOK rfl ?_; (conv => whnf); refine ⟨rfl, rfl, rfl, rfl, rfl, rfl, ?_, ?_, ?_⟩)
      | ((first | refine W.branch rfl (fun hb => ?_) (fun hb => ?_) | refine D.branch rfl (fun hb => ?_) (fun hb => ?_)) <;> ((try simp only [qhb, addI, reduceCtorEq, Int.reduceToNat] at hb); (try replace hb := of_decide_eq_true hb); (try replace hb := of_decide_eq_false hb)))
      | (refine W.go TOK 34 hΓ 1000 rfl ?_; (conv => whnf); refine ⟨?_, ?_⟩)
      | (refine D.go TOK 34 hΓ 1000 rfl ?_; (conv => whnf); refine ⟨?_, ?_⟩)
      | (refine W.drawn rfl rfl ?_; refine D.run TOK 34 hΓ 1000 ?_; (conv => whnf); refine ⟨?_, ?_⟩)
    all_goals (repeat' apply And.intro)
    all_goals try exact qcs0
  cases n with
  | zero => exfalso; omega
  | succ n =>
  rw [mulF, if_pos hbz] at hR
  have hs := shrU1 (b := b) (by omega)
  have hb2 : 0 ≤ shrI .u64 b 1 ∧ shrI .u64 b 1 < 2 ^ n := by rw [hs]; have : (2 : Int) ^ (n + 1) = 2 ^ n * 2 := Int.pow_succ _ _; omega
  have hax := mod_bd (IntKind.u64.wrap (a + a)) (M := M) (by omega)
  have hwa : 0 ≤ IntKind.u64.wrap (a + a) := by rw [wrap_u64_in (by omega) (by omega)]; omega
  have hwo : 0 ≤ IntKind.u64.wrap (o + a) := by rw [wrap_u64_in (by omega) (by omega)]; omega
  by_cases hbit : bitsI .and .u64 b 1 = 1
  · rw [if_pos hbit] at hR
    have hox := mod_bd (IntKind.u64.wrap (o + a)) (M := M) (by omega)
    have ih2 := ih (n, IntKind.u64.wrap (a + a) % M, shrI .u64 b 1, IntKind.u64.wrap (o + a) % M) ⟨hR, hax, hb2, hox⟩ (Nat.lt_succ_self n)
    clear ih
    repeat' first
      | assumption
      | exact Bool.noConfusion hb
      | exact absurd hb (by decide)
      | (exfalso; omega)
      | exact absurd hbit hb
      | (refine W.toA (ih2) ?_; rotate_left 0; (conv => whnf); refine ⟨rfl, rfl, rfl, rfl, rfl, rfl, ?_, ?_⟩; iterate 2 exact qlf1)
      | ((first | refine W.branch rfl (fun hb => ?_) (fun hb => ?_) | refine D.branch rfl (fun hb => ?_) (fun hb => ?_)) <;> ((try simp only [qhb, addI, reduceCtorEq, Int.reduceToNat] at hb); (try replace hb := of_decide_eq_true hb); (try replace hb := of_decide_eq_false hb)))
      | (refine W.go TOK 34 hΓ 1000 rfl ?_; (conv => whnf); refine ⟨?_, ?_⟩)
      | (refine D.go TOK 34 hΓ 1000 rfl ?_; (conv => whnf); refine ⟨?_, ?_⟩)
      | (refine W.drawn rfl rfl ?_; refine D.run TOK 34 hΓ 1000 ?_; (conv => whnf); refine ⟨?_, ?_⟩)
    all_goals (repeat' apply And.intro)
    all_goals try exact qSc15k2
  · rw [if_neg hbit] at hR
    have ih2 := ih (n, IntKind.u64.wrap (a + a) % M, shrI .u64 b 1, o) ⟨hR, hax, hb2, ho0⟩ (Nat.lt_succ_self n)
    clear ih
    repeat' first
      | assumption
      | exact Bool.noConfusion hb
      | exact absurd hb (by decide)
      | (exfalso; omega)
      | exact absurd hb hbit
      | (refine W.toA (ih2) ?_; rotate_left 0; (conv => whnf); refine ⟨rfl, rfl, rfl, rfl, rfl, rfl, ?_, ?_⟩; iterate 2 exact qlf1)
      | ((first | refine W.branch rfl (fun hb => ?_) (fun hb => ?_) | refine D.branch rfl (fun hb => ?_) (fun hb => ?_)) <;> ((try simp only [qhb, addI, reduceCtorEq, Int.reduceToNat] at hb); (try replace hb := of_decide_eq_true hb); (try replace hb := of_decide_eq_false hb)))
      | (refine W.go TOK 34 hΓ 1000 rfl ?_; (conv => whnf); refine ⟨?_, ?_⟩)
      | (refine D.go TOK 34 hΓ 1000 rfl ?_; (conv => whnf); refine ⟨?_, ?_⟩)
      | (refine W.drawn rfl rfl ?_; refine D.run TOK 34 hΓ 1000 ?_; (conv => whnf); refine ⟨?_, ?_⟩)
    all_goals (repeat' apply And.intro)
    all_goals try exact qSc15k2

theorem rpow_does (a b m : Int) (ha : inr .u64 a) (hb9 : inr .u64 b) : Does Try.prog 71 [.int .u64 a, .int .u64 b, .int .u64 m] [] [] (Is (.int .u64 (powS a b m)) []) := by
  have cm := modulus_does m
  have hM := modS_bd m
  have ha1 := inr_u64.1 ha
  have hb1 := inr_u64.1 hb9
  have hma := mod_bd a (M := modS m) (by omega)
  have hmo := mod_bd 1 (M := modS m) (by omega)
  have hR0 : powF (modS m) 64 (a % modS m) b (1 % modS m) = powS a b m := rfl
  generalize powS a b m = R at hR0 ⊢
  generalize modS m = M at *
  refine Does.intro (fn := Try.f71) Try.func71 rfl rfl fun Γ hΓ => ?_
  refine W.run TOK 31 hΓ 1000 ?_
  conv => whnf
  refine ⟨?_, ?_⟩
  repeat' first
    | assumption
    | exact Bool.noConfusion hb
    | exact absurd hb (by decide)
    | (exfalso; omega)
    | (refine W.branch rfl (fun hb => ?_) (fun hb => ?_) <;> ((try simp only [qhb, addI, reduceCtorEq, Int.reduceToNat] at hb); (try replace hb := of_decide_eq_true hb); (try replace hb := of_decide_eq_false hb)))
    | (refine W.callA (cm) rfl rfl rfl rfl hΓ rfl ?_; (conv => whnf); refine ⟨rfl, rfl, ?_, ?_, ?_, ?_⟩; iterate 3 exact qlf1; (conv => whnf))
    | (refine W.go TOK 31 hΓ 1000 rfl ?_; (conv => whnf); refine ⟨?_, ?_⟩)
  all_goals (repeat' apply And.intro)
  all_goals try exact qcs0
  refine W.loopA (Nat × Int × Int × Int) (fun x => powF M x.1 x.2.1 x.2.2.1 x.2.2.2 = R ∧ (0 ≤ x.2.1 ∧ x.2.1 ≤ 2305843009213693951) ∧ (0 ≤ x.2.2.1 ∧ x.2.2.1 < 2 ^ x.1) ∧ (0 ≤ x.2.2.2 ∧ x.2.2.2 ≤ 2305843009213693951)) (fun x => x.1) (fun x => [(0, .int .u64 x.2.1), (1, .int .u64 x.2.2.1), (7, .int .u64 x.2.2.2)]) (fun x => []) [] ((64, a % M, b, 1 % M)) (⟨hR0, ⟨hma.1, show a % M ≤ 2305843009213693951 by omega⟩, ⟨hb1.1, show b < 2 ^ 64 by omega⟩, ⟨hmo.1, show 1 % M ≤ 2305843009213693951 by omega⟩⟩) ?_
  (conv => whnf); refine ⟨?_, ?_⟩; focus ((conv => whnf); refine ⟨rfl, rfl, rfl, rfl, rfl, rfl, ?_, ?_⟩; iterate 2 exact qlf1)
  rintro x ⟨hR, ha0, hb0, ho0⟩ ih
  obtain ⟨n, a, b, o⟩ := x
  simp only at hR ha0 hb0 ho0
  by_cases hbz : 0 < b
  rotate_left
  · have : b = 0 := by omega
    subst this
    have ho : o = R := by rw [← hR]; cases n <;> rfl
    subst ho
    clear ih
    repeat' first
      | assumption
      | exact Bool.noConfusion hb
      | exact absurd hb (by decide)
      | (exfalso; omega)
      | (refine W.retA TOK rfl ?_; (conv => whnf); refine ⟨rfl, rfl, rfl, rfl, rfl, rfl, ?_, ?_, ?_⟩)
      | (refine W.branch rfl (fun hb => ?_) (fun hb => ?_) <;> ((try simp only [qhb, addI, reduceCtorEq, Int.reduceToNat] at hb); (try replace hb := of_decide_eq_true hb); (try replace hb := of_decide_eq_false hb)))
      | (refine W.go TOK 31 hΓ 1000 rfl ?_; (conv => whnf); refine ⟨?_, ?_⟩)
    all_goals (repeat' apply And.intro)
    all_goals try exact qcs0
  cases n with
  | zero => exfalso; omega
  | succ n =>
  rw [powF, if_pos hbz] at hR
  have hs := shrU1 (b := b) (by omega)
  have hb2 : 0 ≤ shrI .u64 b 1 ∧ shrI .u64 b 1 < 2 ^ n := by rw [hs]; have : (2 : Int) ^ (n + 1) = 2 ^ n * 2 := Int.pow_succ _ _; omega
  have hax := mulS_bd a a M
  have c1 := rmul_does a a M (u64_of ha0) (u64_of ha0)
  by_cases hbit : bitsI .and .u64 b 1 = 1
  · rw [if_pos hbit] at hR
    have hox := mulS_bd o a M
    have c2 := rmul_does o a M (u64_of ho0) (u64_of ha0)
    have ih2 := ih (n, mulS a a M, shrI .u64 b 1, mulS o a M) ⟨hR, hax, hb2, hox⟩ (Nat.lt_succ_self n)
    clear ih
    repeat' first
      | assumption
      | exact Bool.noConfusion hb
      | exact absurd hb (by decide)
      | (exfalso; omega)
      | exact absurd hbit hb
      | (refine W.toA (ih2) ?_; rotate_left 0; (conv => whnf); refine ⟨rfl, rfl, rfl, rfl, rfl, rfl, ?_, ?_⟩; iterate 2 exact qlf1)
      | (refine W.branch rfl (fun hb => ?_) (fun hb => ?_) <;> ((try simp only [qhb, addI, reduceCtorEq, Int.reduceToNat] at hb); (try replace hb := of_decide_eq_true hb); (try replace hb := of_decide_eq_false hb)))
      | (refine W.callA (c2) rfl rfl rfl rfl hΓ rfl ?_; (conv => whnf); refine ⟨rfl, rfl, ?_, ?_, ?_, ?_⟩; iterate 3 exact qlf1; (conv => whnf))
      | (refine W.callA (c1) rfl rfl rfl rfl hΓ rfl ?_; (conv => whnf); refine ⟨rfl, rfl, ?_, ?_, ?_, ?_⟩; iterate 3 exact qlf1; (conv => whnf))
      | (refine W.go TOK 31 hΓ 1000 rfl ?_; (conv => whnf); refine ⟨?_, ?_⟩)
    all_goals (repeat' apply And.intro)
    all_goals try exact qcs0
  · rw [if_neg hbit] at hR
    have ih2 := ih (n, mulS a a M, shrI .u64 b 1, o) ⟨hR, hax, hb2, ho0⟩ (Nat.lt_succ_self n)
    clear ih
    repeat' first
      | assumption
      | exact Bool.noConfusion hb
      | exact absurd hb (by decide)
      | (exfalso; omega)
      | exact absurd hb hbit
      | (refine W.toA (ih2) ?_; rotate_left 0; (conv => whnf); refine ⟨rfl, rfl, rfl, rfl, rfl, rfl, ?_, ?_⟩; iterate 2 exact qlf1)
      | (refine W.branch rfl (fun hb => ?_) (fun hb => ?_) <;> ((try simp only [qhb, addI, reduceCtorEq, Int.reduceToNat] at hb); (try replace hb := of_decide_eq_true hb); (try replace hb := of_decide_eq_false hb)))
      | (refine W.callA (c1) rfl rfl rfl rfl hΓ rfl ?_; (conv => whnf); refine ⟨rfl, rfl, ?_, ?_, ?_, ?_⟩; iterate 3 exact qlf1; (conv => whnf))
      | (refine W.go TOK 31 hΓ 1000 rfl ?_; (conv => whnf); refine ⟨?_, ?_⟩)
    all_goals (repeat' apply And.intro)
    all_goals try exact qcs0

theorem radd_does (a b m : Int) (ha : inr .u64 a) (hb9 : inr .u64 b) : Does Try.prog 74 [.int .u64 a, .int .u64 b, .int .u64 m] [] [] (Is (.int .u64 (addS a b m)) []) := by
  have cm := modulus_does m
  have hM := modS_bd m
  have ha1 := inr_u64.1 ha
  have hb1 := inr_u64.1 hb9
  unfold addS
  have hma := mod_bd a (M := modS m) (by omega)
  have hmb := mod_bd b (M := modS m) (by omega)
  generalize modS m = M at *
  have hw : IntKind.u64.wrap (a % M + b % M) = a % M + b % M := wrap_u64_in (by omega) (by omega)
  have hw2 : IntKind.u64.wrap (a % M + b % M) % M = (a % M + b % M) % M := by rw [hw]
  refine Does.intro (fn := Try.f74) Try.func74 rfl rfl fun Γ hΓ => ?_
  refine W.run TOK 18 hΓ 1000 ?_
  conv => whnf
  refine ⟨?_, ?_⟩
  repeat' first
    | assumption
    | exact Bool.noConfusion hb
    | exact absurd hb (by decide)
    | (exfalso; omega)
    | (refine W.retA TOK rfl ?_; (conv => whnf); refine ⟨rfl, rfl, rfl, rfl, rfl, rfl, ?_, ?_, ?_⟩)
    | ((first | refine W.branch rfl (fun hb => ?_) (fun hb => ?_) | refine D.branch rfl (fun hb => ?_) (fun hb => ?_)) <;> ((try simp only [qhb, addI, reduceCtorEq, Int.reduceToNat] at hb); (try replace hb := of_decide_eq_true hb); (try replace hb := of_decide_eq_false hb)))
    | ((first | (refine D.callA (cm) rfl rfl rfl rfl hΓ rfl ?_; (conv => whnf); refine ⟨rfl, rfl, rfl, ?_, ?_, ?_, ?_⟩) | (refine W.callA (cm) rfl rfl rfl rfl hΓ rfl ?_; (conv => whnf); refine ⟨rfl, rfl, ?_, ?_, ?_, ?_⟩)); iterate 3 exact qSc15k1; (conv => whnf))
    | (refine W.go TOK 18 hΓ 1000 rfl ?_; (conv => whnf); refine ⟨?_, ?_⟩)
    | (refine D.go TOK 18 hΓ 1000 rfl ?_; (conv => whnf); refine ⟨?_, ?_⟩)
    | (refine W.drawn rfl rfl ?_; refine D.run TOK 18 hΓ 1000 ?_; (conv => whnf); refine ⟨?_, ?_⟩)
  all_goals (repeat' apply And.intro)
  all_goals try first | exact qcl0 | exact hw2 | exact qsm0

end Go.Proofs.Ytcolghonbncpnaa
