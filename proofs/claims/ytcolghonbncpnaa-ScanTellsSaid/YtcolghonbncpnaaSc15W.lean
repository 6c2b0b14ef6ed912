/- Walks: words, rounds, the permutation, numbers as bytes. -/
import Derived.Test.YtcolghonbncpnaaTab
import Derived.Test.YtcolghonbncpnaaVxI
import Derived.Test.YtcolghonbncpnaaPlA
set_option linter.unusedSimpArgs false
set_option linter.unusedVariables false
namespace Go.Proofs.Ytcolghonbncpnaa
open VX
set_option maxRecDepth 100000
set_option maxHeartbeats 4000000

theorem qSc15W1 {P : Prop} (h : P := by
  all_goals try exact qco0
  all_goals first
    | exact trivial
    | exact ⟨rfl, rfl, fun i hi => by match i, hi with | 0, _ | 1, _ | 2, _ | 3, _ | 4, _ => exact .of rfl⟩
    | (simp only [allP, List.nil_append, List.append_nil, List.cons_append, List.append_eq, and_true, true_and, A.purePL, A.pureP, A.sureP, A.surePL, Int.toNat_natCast, all_5]; (repeat' apply And.intro) <;> first | exact trivial | rfl | decide)) : P := h
theorem rturn_does (x n : Int) (h : 0 ≤ n ∧ n ≤ 64) : Does Try.prog 99 [.int .u64 x, .int .i64 n] [] [] (Is (.int .u64 (turn x n)) []) := by
  refine Does.intro (fn := Try.f99) Try.func99 rfl rfl fun Γ hΓ => ?_
  refine W.run TOK 13 hΓ 1000 ?_
  conv => whnf
  refine ⟨?_, ?_⟩
  repeat' first
    | assumption
    | exact Bool.noConfusion hb
    | exact absurd hb (by decide)
    | (apply W.atRet (π := []) (r' := []) TOK; refine ⟨rfl, rfl, rfl, rfl, ⟨rfl, rfl⟩, ?_, ?_, ?_⟩)
    | ((first | refine W.branch rfl (fun hb => ?_) (fun hb => ?_) | refine D.branch rfl (fun hb => ?_) (fun hb => ?_)) <;> ((try simp only [qhb, addI, reduceCtorEq, Int.reduceToNat] at hb); (try replace hb := of_decide_eq_true hb); (try replace hb := of_decide_eq_false hb)))
    | (refine W.go TOK 13 hΓ 1000 rfl ?_; (conv => whnf); refine ⟨?_, ?_⟩)
    | (refine D.go TOK 13 hΓ 1000 rfl ?_; (conv => whnf); refine ⟨?_, ?_⟩)
    | (refine W.drawn rfl rfl ?_; refine D.run TOK 13 hΓ 1000 ?_; (conv => whnf); refine ⟨?_, ?_⟩)
  all_goals try exact qco0
  all_goals exact ⟨rfl, rfl⟩

theorem rotl_does (x n : Int) (h : 1 ≤ n ∧ n ≤ 63) : Does Try.prog 101 [.int .u64 x, .int .i64 (0 - n)] [] [] (Is (.int .u64 (turn x n)) []) := by
  have hs := rot_s h
  rw [← Int.zero_sub] at hs
  have e64 : IntKind.u64.wrap (64 - (64 - n)) = n := by rw [wrap_u64]; omega
  refine Does.intro (fn := Try.f101) Try.func101 rfl rfl fun Γ hΓ => ?_
  refine W.run TwOK 17 hΓ 1000 ?_
  conv => whnf
  refine ⟨?_, ?_⟩
  repeat' first
    | assumption
    | exact Bool.noConfusion hb
    | exact absurd hb (by decide)
    | (apply W.atRet (π := []) (r' := []) TwOK; refine ⟨rfl, rfl, rfl, rfl, ⟨rfl, rfl⟩, ?_, ?_, ?_⟩)
    | ((first | refine W.branch rfl (fun hb => ?_) (fun hb => ?_) | refine D.branch rfl (fun hb => ?_) (fun hb => ?_)) <;> ((try simp only [qhb, addI, reduceCtorEq, Int.reduceToNat] at hb); (try replace hb := of_decide_eq_true hb); (try replace hb := of_decide_eq_false hb)))
    | (refine W.go TwOK 17 hΓ 1000 rfl ?_; (conv => whnf); refine ⟨?_, ?_⟩)
    | (refine D.go TwOK 17 hΓ 1000 rfl ?_; (conv => whnf); refine ⟨?_, ?_⟩)
    | (refine W.drawn rfl rfl ?_; refine D.run TwOK 17 hΓ 1000 ?_; (conv => whnf); refine ⟨?_, ?_⟩)
  all_goals try (exact trivial)
  all_goals try (simp only [allP, List.nil_append, List.append_nil, List.cons_append, List.append_eq, and_true, true_and, hs, e64]; omega)
  refine ⟨rfl, ?_⟩
  show orr (shlI .u64 x (bitsI .and .u64 (IntKind.u64.wrap (0 - n)) 63)) (shrI .u64 x (IntKind.u64.wrap (64 - bitsI .and .u64 (IntKind.u64.wrap (0 - n)) 63))) = _
  rw [hs, e64, orr_comm]
  rfl

theorem turned_does (x a b : Int) (h : 1 ≤ a ∧ a ≤ 63) (h' : 1 ≤ b ∧ b ≤ 63) : Does Try.prog 100 [.int .u64 x, .int .i64 a, .int .i64 b] [] [] (Is (.int .u64 (turned x a b)) []) := by
  refine Does.intro (fn := Try.f100) Try.func100 rfl rfl fun Γ hΓ => ?_
  refine W.run TOK 18 hΓ 1000 ?_
  conv => whnf
  refine ⟨?_, ?_⟩
  repeat' first
    | assumption
    | exact Bool.noConfusion hb
    | exact absurd hb (by decide)
    | (apply W.atRet (π := []) (r' := []) TOK; refine ⟨rfl, rfl, rfl, rfl, ⟨rfl, rfl⟩, ?_, ?_, ?_⟩)
    | ((first | refine W.branch rfl (fun hb => ?_) (fun hb => ?_) | refine D.branch rfl (fun hb => ?_) (fun hb => ?_)) <;> ((try simp only [qhb, addI, reduceCtorEq, Int.reduceToNat] at hb); (try replace hb := of_decide_eq_true hb); (try replace hb := of_decide_eq_false hb)))
    | (refine D.callF (rotl_does _ _ ?_) rfl rfl rfl rfl [] [] [] rfl rfl hΓ rfl ⟨⟨rfl, rfl⟩, ⟨rfl, rfl⟩, trivial⟩ trivial (.inl rfl) rfl ?_; (conv => whnf))
    | (refine W.callF (rotl_does _ _ ?_) rfl rfl rfl rfl [] [] [] rfl rfl hΓ rfl ⟨⟨rfl, rfl⟩, ⟨rfl, rfl⟩, trivial⟩ trivial (.inl rfl) ?_)
    | (refine W.go TOK 18 hΓ 1000 rfl ?_; (conv => whnf); refine ⟨?_, ?_⟩)
    | (refine D.go TOK 18 hΓ 1000 rfl ?_; (conv => whnf); refine ⟨?_, ?_⟩)
    | (refine W.drawn rfl rfl ?_; refine D.run TOK 18 hΓ 1000 ?_; (conv => whnf); refine ⟨?_, ?_⟩)
  all_goals try exact qco0
  all_goals exact ⟨rfl, rfl⟩

theorem round_does (s : Nat → Int) (c : Int) : Does Try.prog 98 [st s, .int .u64 c] [] [] (Is (st (rnd s c)) []) := by
  refine Does.intro (fn := Try.f98) Try.func98 rfl rfl fun Γ hΓ => ?_
  refine W.run TOK 90 hΓ 1000 ?_
  conv => whnf
  refine ⟨?_, ?_⟩
  repeat' first
    | assumption
    | exact Bool.noConfusion hb
    | exact absurd hb (by decide)
    | (apply W.atRet (π := []) (r' := []) TOK; refine ⟨rfl, rfl, rfl, rfl, ⟨rfl, rfl⟩, ?_, ?_, ?_⟩)
    | ((first | refine W.branch rfl (fun hb => ?_) (fun hb => ?_) | refine D.branch rfl (fun hb => ?_) (fun hb => ?_)) <;> ((try simp only [qhb, addI, reduceCtorEq, Int.reduceToNat] at hb); (try replace hb := of_decide_eq_true hb); (try replace hb := of_decide_eq_false hb)))
    | (refine D.callF (turned_does _ _ _ (by decide) (by decide)) rfl rfl rfl rfl [] [] [] rfl rfl hΓ rfl ⟨⟨rfl, rfl⟩, ⟨rfl, rfl⟩, ⟨rfl, rfl⟩, trivial⟩ trivial (.inl rfl) rfl ?_; (conv => whnf))
    | (refine W.callF (turned_does _ _ _ (by decide) (by decide)) rfl rfl rfl rfl [] [] [] rfl rfl hΓ rfl ⟨⟨rfl, rfl⟩, ⟨rfl, rfl⟩, ⟨rfl, rfl⟩, trivial⟩ trivial (.inl rfl) ?_)
    | (refine W.go TOK 90 hΓ 1000 rfl ?_; (conv => whnf); refine ⟨?_, ?_⟩)
    | (refine D.go TOK 90 hΓ 1000 rfl ?_; (conv => whnf); refine ⟨?_, ?_⟩)
    | (refine W.drawn rfl rfl ?_; refine D.run TOK 90 hΓ 1000 ?_; (conv => whnf); refine ⟨?_, ?_⟩)
    | (refine W.enter ?_)
    | (refine W.again ?_)
  all_goals exact qSc15W1

theorem rround_does (s : Nat → Int) (c : Int) : Does Try.prog 97 [st s, .int .u64 c] [] [] (Is (st (rnd s c)) []) := by
  refine Does.intro (fn := Try.f97) Try.func97 rfl rfl fun Γ hΓ => ?_
  refine W.run TOK 130 hΓ 1000 ?_
  conv => whnf
  refine ⟨?_, ?_⟩
  repeat' first
    | assumption
    | exact Bool.noConfusion hb
    | exact absurd hb (by decide)
    | (apply W.atRet (π := []) (r' := []) TOK; refine ⟨rfl, rfl, rfl, rfl, ⟨rfl, rfl⟩, ?_, ?_, ?_⟩)
    | ((first | refine W.branch rfl (fun hb => ?_) (fun hb => ?_) | refine D.branch rfl (fun hb => ?_) (fun hb => ?_)) <;> ((try simp only [qhb, addI, reduceCtorEq, Int.reduceToNat] at hb); (try replace hb := of_decide_eq_true hb); (try replace hb := of_decide_eq_false hb)))
    | (refine D.callF (rturn_does _ _ (by decide)) rfl rfl rfl rfl [] [] [] rfl rfl hΓ rfl ⟨⟨rfl, rfl⟩, ⟨rfl, rfl⟩, trivial⟩ trivial (.inl rfl) rfl ?_; (conv => whnf))
    | (refine W.callF (rturn_does _ _ (by decide)) rfl rfl rfl rfl [] [] [] rfl rfl hΓ rfl ⟨⟨rfl, rfl⟩, ⟨rfl, rfl⟩, trivial⟩ trivial (.inl rfl) ?_)
    | (refine W.go TOK 130 hΓ 1000 rfl ?_; (conv => whnf); refine ⟨?_, ?_⟩)
    | (refine D.go TOK 130 hΓ 1000 rfl ?_; (conv => whnf); refine ⟨?_, ?_⟩)
    | (refine W.drawn rfl rfl ?_; refine D.run TOK 130 hΓ 1000 ?_; (conv => whnf); refine ⟨?_, ?_⟩)
    | (refine W.enter ?_)
    | (refine W.again ?_)
  all_goals exact qSc15W1

def Sp1 (s : Nat → Int) (i : Nat) : St := ⟨[(1, .ptr 1 []), (2, .ptr 2 []), (4, .int .i64 i)], [(1, some (.var (st (permN i s)))), (2, some (.var (st fun _ => 0)))], [1, 2]⟩
theorem perm_does (s : Nat → Int) : Does Try.prog 94 [st s] [] [] (Is (st (perm s)) []) := by
  refine Does.intro (fn := Try.f94) Try.func94 rfl rfl fun Γ hΓ => ?_
  refine W.run TOK 15 hΓ 1000 ?_
  conv => whnf
  refine ⟨?_, ?_⟩
  repeat' first
    | assumption
    | exact Bool.noConfusion hb
    | exact absurd hb (by decide)
    | (apply W.atRet (π := []) (r' := []) TOK; refine ⟨rfl, rfl, rfl, rfl, ⟨rfl, rfl⟩, ?_, ?_, ?_⟩)
    | ((first | refine W.branch rfl (fun hb => ?_) (fun hb => ?_) | refine D.branch rfl (fun hb => ?_) (fun hb => ?_)) <;> ((try simp only [qhb, addI, reduceCtorEq, Int.reduceToNat] at hb); (try replace hb := of_decide_eq_true hb); (try replace hb := of_decide_eq_false hb)))
    | (refine W.go TOK 15 hΓ 1000 rfl ?_; (conv => whnf); refine ⟨?_, ?_⟩)
    | (refine D.go TOK 15 hΓ 1000 rfl ?_; (conv => whnf); refine ⟨?_, ?_⟩)
    | (refine W.drawn rfl rfl ?_; refine D.run TOK 15 hΓ 1000 ?_; (conv => whnf); refine ⟨?_, ?_⟩)
  all_goals try exact qco0
  refine W.loop (fun i => i ≤ 12) (fun i => 12 - i) (Sp1 s) 0 (Nat.zero_le _) (Weak.via [(1, 1), (2, 2)] rfl rfl rfl ⟨⟨rfl, rfl⟩, ⟨rfl, rfl⟩, ⟨rfl, rfl⟩, trivial⟩ ⟨⟨rfl, rfl, fun _ _ => A.sim.refl _⟩, ⟨rfl, rfl, fun _ _ => A.sim.refl _⟩, trivial⟩) ?_
  intro i hi ih
  have hw : i < 12 → IntKind.u64.wrap (240 - IntKind.u64.wrap (15 * IntKind.u64.wrap (i : Int))) = 240 - 15 * (i : Int) := fun h => by
    rw [wrap_u64_in (n := (i : Int)) (by omega) (by omega), wrap_u64_in (n := 15 * (i : Int)) (by omega) (by omega), wrap_u64_in (by omega) (by omega)]
  dsimp only [Sp1]
  refine W.run TOK 15 hΓ 1000 ?_
  conv => whnf
  refine ⟨?_, ?_⟩
  repeat' first
    | assumption
    | exact Bool.noConfusion hb
    | exact absurd hb (by decide)
    | (refine W.to (ih (i + 1) ?_ ?_) (Weak.via [(1, 1), (2, 2)] rfl rfl rfl ⟨⟨rfl, rfl⟩, ⟨rfl, rfl⟩, ⟨rfl, rfl⟩, trivial⟩ ⟨⟨rfl, rfl, fun _ _ => A.sim.refl _⟩, ⟨rfl, rfl, fun _ _ => A.sim.refl _⟩, trivial⟩))
    | (apply W.atRet (π := []) (r' := []) TOK; refine ⟨rfl, rfl, rfl, rfl, ⟨rfl, rfl⟩, ?_, ?_, ?_⟩)
    | ((first | refine W.branch rfl (fun hb => ?_) (fun hb => ?_) | refine D.branch rfl (fun hb => ?_) (fun hb => ?_)) <;> ((try simp only [qhb, addI, reduceCtorEq, Int.reduceToNat] at hb); (try replace hb := of_decide_eq_true hb); (try replace hb := of_decide_eq_false hb)))
    | (refine D.callF (round_does _ (240 - 15 * (i : Int))) rfl rfl rfl rfl [] [] [] rfl rfl hΓ rfl ⟨⟨rfl, rfl, fun _ _ => A.sim.refl _⟩, ⟨rfl, hw (by omega)⟩, trivial⟩ trivial (.inl rfl) rfl ?_; (conv => whnf))
    | (refine W.callF (round_does _ (240 - 15 * (i : Int))) rfl rfl rfl rfl [] [] [] rfl rfl hΓ rfl ⟨⟨rfl, rfl, fun _ _ => A.sim.refl _⟩, ⟨rfl, hw (by omega)⟩, trivial⟩ trivial (.inl rfl) ?_)
    | (refine W.go TOK 15 hΓ 1000 rfl ?_; (conv => whnf); refine ⟨?_, ?_⟩)
    | (refine D.go TOK 15 hΓ 1000 rfl ?_; (conv => whnf); refine ⟨?_, ?_⟩)
    | (refine W.drawn rfl rfl ?_; refine D.run TOK 15 hΓ 1000 ?_; (conv => whnf); refine ⟨?_, ?_⟩)
  all_goals try exact qco0
  all_goals try (exact ⟨rfl, rfl, by
    have : i = 12 := by omega
    subst this
    exact fun _ _ => .refl _⟩)

def Sp2 (s : Nat → Int) (i : Nat) : St := ⟨[(1, .ptr 1 []), (2, .ptr 2 []), (3, .ptr 3 []), (4, .int .i64 i)], [(1, some (.var (st (permN i s)))), (2, some (.var (st fun _ => 0))), (3, some (.var (.vec 1 12 fun i => .int .u64 (240 - 15 * (i : Int)))))], [1, 2, 3]⟩
theorem rperm_does (s : Nat → Int) : Does Try.prog 93 [st s] [] [] (Is (st (perm s)) []) := by
  refine Does.intro (fn := Try.f93) Try.func93 rfl rfl fun Γ hΓ => ?_
  refine W.run TOK 16 hΓ 1000 ?_
  conv => whnf
  refine ⟨?_, ?_⟩
  repeat' first
    | assumption
    | exact Bool.noConfusion hb
    | exact absurd hb (by decide)
    | (apply W.atRet (π := []) (r' := []) TOK; refine ⟨rfl, rfl, rfl, rfl, ⟨rfl, rfl⟩, ?_, ?_, ?_⟩)
    | ((first | refine W.branch rfl (fun hb => ?_) (fun hb => ?_) | refine D.branch rfl (fun hb => ?_) (fun hb => ?_)) <;> ((try simp only [qhb, addI, reduceCtorEq, Int.reduceToNat] at hb); (try replace hb := of_decide_eq_true hb); (try replace hb := of_decide_eq_false hb)))
    | (refine W.go TOK 16 hΓ 1000 rfl ?_; (conv => whnf); refine ⟨?_, ?_⟩)
    | (refine D.go TOK 16 hΓ 1000 rfl ?_; (conv => whnf); refine ⟨?_, ?_⟩)
    | (refine W.drawn rfl rfl ?_; refine D.run TOK 16 hΓ 1000 ?_; (conv => whnf); refine ⟨?_, ?_⟩)
  all_goals try exact qco0
  rotate_right
  refine W.loop (fun i => i ≤ 12) (fun i => 12 - i) (Sp2 s) 0 (Nat.zero_le _) (Weak.via [(1, 1), (2, 2), (3, 3)] rfl rfl rfl ⟨⟨rfl, rfl⟩, ⟨rfl, rfl⟩, ⟨rfl, rfl⟩, ⟨rfl, rfl⟩, trivial⟩ ⟨⟨rfl, rfl, fun _ _ => A.sim.refl _⟩, ⟨rfl, rfl, fun _ _ => A.sim.refl _⟩, ⟨rfl, rfl, fun i hi => ?_⟩, trivial⟩) ?_
  · match i, hi with | 0, _ | 1, _ | 2, _ | 3, _ | 4, _ | 5, _ | 6, _ | 7, _ | 8, _ | 9, _ | 10, _ | 11, _ => exact .of rfl
  intro i hi ih
  dsimp only [Sp2]
  refine W.run TOK 16 hΓ 1000 ?_
  conv => whnf
  refine ⟨?_, ?_⟩
  repeat' first
    | assumption
    | exact Bool.noConfusion hb
    | exact absurd hb (by decide)
    | (refine W.to (ih (i + 1) ?_ ?_) (Weak.via [(1, 1), (2, 2), (3, 3)] rfl rfl rfl ⟨⟨rfl, rfl⟩, ⟨rfl, rfl⟩, ⟨rfl, rfl⟩, ⟨rfl, rfl⟩, trivial⟩ ⟨⟨rfl, rfl, fun _ _ => A.sim.refl _⟩, ⟨rfl, rfl, fun _ _ => A.sim.refl _⟩, ⟨rfl, rfl, fun _ _ => A.sim.refl _⟩, trivial⟩))
    | (apply W.atRet (π := []) (r' := []) TOK; refine ⟨rfl, rfl, rfl, rfl, ⟨rfl, rfl⟩, ?_, ?_, ?_⟩)
    | ((first | refine W.branch rfl (fun hb => ?_) (fun hb => ?_) | refine D.branch rfl (fun hb => ?_) (fun hb => ?_)) <;> ((try simp only [qhb, addI, reduceCtorEq, Int.reduceToNat] at hb); (try replace hb := of_decide_eq_true hb); (try replace hb := of_decide_eq_false hb)))
    | (refine D.callF (rround_does _ (240 - 15 * (i : Int))) rfl rfl rfl rfl [] [] [] rfl rfl hΓ rfl ⟨⟨rfl, rfl, fun _ _ => A.sim.refl _⟩, ⟨rfl, rfl⟩, trivial⟩ trivial (.inl rfl) rfl ?_; (conv => whnf))
    | (refine W.callF (rround_does _ (240 - 15 * (i : Int))) rfl rfl rfl rfl [] [] [] rfl rfl hΓ rfl ⟨⟨rfl, rfl, fun _ _ => A.sim.refl _⟩, ⟨rfl, rfl⟩, trivial⟩ trivial (.inl rfl) ?_)
    | (refine W.go TOK 16 hΓ 1000 rfl ?_; (conv => whnf); refine ⟨?_, ?_⟩)
    | (refine D.go TOK 16 hΓ 1000 rfl ?_; (conv => whnf); refine ⟨?_, ?_⟩)
    | (refine W.drawn rfl rfl ?_; refine D.run TOK 16 hΓ 1000 ?_; (conv => whnf); refine ⟨?_, ?_⟩)
  all_goals try exact qco0
  all_goals try (exact ⟨rfl, rfl, by
    have : i = 12 := by omega
    subst this
    exact fun _ _ => .refl _⟩)
  all_goals try (simp only [allP, List.nil_append, List.append_nil, List.cons_append, List.append_eq, and_true, true_and, A.purePL, A.pureP, A.sureP, A.surePL, Int.toNat_natCast]; (repeat' apply And.intro) <;> first | exact trivial | rfl | decide)

def Sp3 (l : List UInt8) (i : Nat) : St := ⟨[(3, .int .u64 (leN (l.take i) : Nat)), (6, bytesA l), (7, .int .i64 l.length), (8, .int .i64 i)], [], []⟩
theorem word_does (l : List UInt8) (hl : l.length ≤ 8) : Does Try.prog 95 [bytesA l] [] [] (Is (.int .u64 (leN l : Nat)) []) := by
  refine Does.intro (fn := Try.f95) Try.func95 rfl rfl fun Γ hΓ => ?_
  refine W.run TOK 22 hΓ 1000 ?_
  conv => whnf
  refine ⟨?_, ?_⟩
  repeat' first
    | assumption
    | exact Bool.noConfusion hb
    | exact absurd hb (by decide)
    | (apply W.atRet (π := []) (r' := []) TOK; refine ⟨rfl, rfl, rfl, rfl, ⟨rfl, rfl⟩, ?_, ?_, ?_⟩)
    | ((first | refine W.branch rfl (fun hb => ?_) (fun hb => ?_) | refine D.branch rfl (fun hb => ?_) (fun hb => ?_)) <;> ((try simp only [qhb, addI, reduceCtorEq, Int.reduceToNat] at hb); (try replace hb := of_decide_eq_true hb); (try replace hb := of_decide_eq_false hb)))
    | (refine W.go TOK 22 hΓ 1000 rfl ?_; (conv => whnf); refine ⟨?_, ?_⟩)
    | (refine D.go TOK 22 hΓ 1000 rfl ?_; (conv => whnf); refine ⟨?_, ?_⟩)
    | (refine W.drawn rfl rfl ?_; refine D.run TOK 22 hΓ 1000 ?_; (conv => whnf); refine ⟨?_, ?_⟩)
  all_goals try exact qco0
  refine W.loop (fun i => i ≤ l.length) (fun i => l.length - i) (Sp3 l) 0 (Nat.zero_le _) (Weak.via [] rfl rfl rfl ⟨⟨rfl, rfl⟩, ⟨rfl, rfl, fun _ _ => A.sim.refl _⟩, ⟨rfl, rfl⟩, ⟨rfl, rfl⟩, trivial⟩ trivial) ?_
  intro i hi ih
  have hw : i < l.length → bitsI .or .u64 ((leN (l.take i) : Nat) : Int) (shlI .u64 (IntKind.u64.wrap ((l.getD i 0).toNat : Int)) (8 * (i : Int))) = ((leN (l.take (i + 1)) : Nat) : Int) := fun h => le_step l i h (by omega)
  dsimp only [Sp3]
  refine W.run TOK 22 hΓ 1000 ?_
  conv => whnf
  refine ⟨?_, ?_⟩
  repeat' first
    | assumption
    | exact Bool.noConfusion hb
    | exact absurd hb (by decide)
    | (refine W.to (ih (i + 1) ?_ ?_) (Weak.via [] rfl rfl rfl ⟨⟨rfl, hw (by omega)⟩, ⟨rfl, rfl, fun _ _ => A.sim.refl _⟩, ⟨rfl, rfl⟩, ⟨rfl, rfl⟩, trivial⟩ trivial))
    | (apply W.atRet (π := []) (r' := []) TOK; refine ⟨rfl, rfl, rfl, rfl, ⟨rfl, rfl⟩, ?_, ?_, ?_⟩)
    | ((first | refine W.branch rfl (fun hb => ?_) (fun hb => ?_) | refine D.branch rfl (fun hb => ?_) (fun hb => ?_)) <;> ((try simp only [qhb, addI, reduceCtorEq, Int.reduceToNat] at hb); (try replace hb := of_decide_eq_true hb); (try replace hb := of_decide_eq_false hb)))
    | (refine W.go TOK 22 hΓ 1000 rfl ?_; (conv => whnf); refine ⟨?_, ?_⟩)
    | (refine D.go TOK 22 hΓ 1000 rfl ?_; (conv => whnf); refine ⟨?_, ?_⟩)
    | (refine W.drawn rfl rfl ?_; refine D.run TOK 22 hΓ 1000 ?_; (conv => whnf); refine ⟨?_, ?_⟩)
  all_goals try exact qco0
  all_goals try (exact ⟨rfl, by
    have : i = l.length := by omega
    subst this
    rw [List.take_length]⟩)

def Sp4 (l : List UInt8) (i : Nat) : St := ⟨[(0, bytesA l), (3, .int .u64 (leN (l.drop i) : Nat)), (4, .int .i64 ((i : Int) - 1))], [], []⟩
theorem rword_does (l : List UInt8) (hl : l.length = 8) : Does Try.prog 45 [bytesA l] [] [] (Is (.int .u64 (leN l : Nat)) []) := by
  refine Does.intro (fn := Try.f45) Try.func45 rfl rfl fun Γ hΓ => ?_
  refine W.run TOK 18 hΓ 1000 ?_
  conv => whnf
  refine ⟨?_, ?_⟩
  repeat' first
    | assumption
    | exact Bool.noConfusion hb
    | exact absurd hb (by decide)
    | (apply W.atRet (π := []) (r' := []) TOK; refine ⟨rfl, rfl, rfl, rfl, ⟨rfl, rfl⟩, ?_, ?_, ?_⟩)
    | ((first | refine W.branch rfl (fun hb => ?_) (fun hb => ?_) | refine D.branch rfl (fun hb => ?_) (fun hb => ?_)) <;> ((try simp only [qhb, addI, reduceCtorEq, Int.reduceToNat] at hb); (try replace hb := of_decide_eq_true hb); (try replace hb := of_decide_eq_false hb)))
    | (refine W.go TOK 18 hΓ 1000 rfl ?_; (conv => whnf); refine ⟨?_, ?_⟩)
    | (refine D.go TOK 18 hΓ 1000 rfl ?_; (conv => whnf); refine ⟨?_, ?_⟩)
    | (refine W.drawn rfl rfl ?_; refine D.run TOK 18 hΓ 1000 ?_; (conv => whnf); refine ⟨?_, ?_⟩)
  all_goals try exact qco0
  refine W.loop (fun i => i ≤ 8) (fun i => i) (Sp4 l) 8 (Nat.le_refl _) (Weak.via [] rfl rfl rfl ⟨⟨rfl, rfl, fun _ _ => A.sim.refl _⟩, ⟨rfl, by rw [List.drop_of_length_le (by omega)]; rfl⟩, ⟨rfl, rfl⟩, trivial⟩ trivial) ?_
  intro i hi ih
  have hw : 1 ≤ i → bitsI .or .u64 (shlI .u64 ((leN (l.drop i) : Nat) : Int) 8) (IntKind.u64.wrap ((l.getD ((i : Int) - 1).toNat 0).toNat : Int)) = ((leN (l.drop (i - 1)) : Nat) : Int) := fun h => by
    have := be_step l (i - 1) (by omega) (by omega)
    rw [show i - 1 + 1 = i by omega] at this
    rw [show ((i : Int) - 1).toNat = i - 1 by omega]
    exact this
  dsimp only [Sp4]
  refine W.run TOK 18 hΓ 1000 ?_
  conv => whnf
  refine ⟨?_, ?_⟩
  repeat' first
    | assumption
    | exact Bool.noConfusion hb
    | exact absurd hb (by decide)
    | (refine W.to (ih (i - 1) ?_ ?_) (Weak.via [] rfl rfl rfl ⟨⟨rfl, rfl, fun _ _ => A.sim.refl _⟩, ⟨rfl, hw (by omega)⟩, ⟨rfl, by omega⟩, trivial⟩ trivial))
    | (apply W.atRet (π := []) (r' := []) TOK; refine ⟨rfl, rfl, rfl, rfl, ⟨rfl, rfl⟩, ?_, ?_, ?_⟩)
    | ((first | refine W.branch rfl (fun hb => ?_) (fun hb => ?_) | refine D.branch rfl (fun hb => ?_) (fun hb => ?_)) <;> ((try simp only [qhb, addI, reduceCtorEq, Int.reduceToNat] at hb); (try replace hb := of_decide_eq_true hb); (try replace hb := of_decide_eq_false hb)))
    | (refine W.go TOK 18 hΓ 1000 rfl ?_; (conv => whnf); refine ⟨?_, ?_⟩)
    | (refine D.go TOK 18 hΓ 1000 rfl ?_; (conv => whnf); refine ⟨?_, ?_⟩)
    | (refine W.drawn rfl rfl ?_; refine D.run TOK 18 hΓ 1000 ?_; (conv => whnf); refine ⟨?_, ?_⟩)
  all_goals try exact qco0
  all_goals try (exact ⟨rfl, by
    have : i = 0 := by omega
    subst this
    rfl⟩)

def numG (n : Int) (i : Nat) : Nat → A := fun j => bif Nat.blt j i then byteAt (numS n) j else .int .u8 0
theorem numG_step (n : Int) (h : inr .u64 n) (i : Nat) (hi : i < 8) (j : Nat) : (setF (numG n i) i (.int .u8 (IntKind.u8.wrap (shrI .u64 n (8 * (i : Int))))) j).sim (numG n (i + 1) j) := by
  have e := num_byte n h i hi
  refine .of ?_
  unfold setF numG
  by_cases h1 : j = i
  · subst h1
    rw [Nat.beq_refl, cond_true, show (Nat.blt j (j + 1)) = true by simp [Nat.blt]]
    exact e
  · rw [nbeq_ne h1, cond_false]
    by_cases h2 : j < i
    · rw [show Nat.blt j i = true by simp [Nat.blt]; omega, show Nat.blt j (i + 1) = true by simp [Nat.blt]; omega]
    · have q : ∀ k, ¬ j < k → Nat.blt j k = false := fun k hk => by
        cases e : Nat.blt j k with
        | false => rfl
        | true => exact absurd (blt_lt e) hk
      rw [q i h2, q (i + 1) (by omega)]
theorem numG_end (n : Int) (j : Nat) (hj : j < 8) : (numG n 8 j).sim (byteAt (numS n) j) := by
  refine .of ?_
  unfold numG
  rw [show Nat.blt j 8 = true by simp [Nat.blt]; omega]; rfl
def Sp5 (n : Int) (i : Nat) : St := ⟨[(0, .int .u64 n), (3, .own 1 5 0 8), (7, .int .i64 8), (8, .int .i64 i)], [(5, some (.arr 1 8 (numG n i)))], [5]⟩
theorem num_does (n : Int) (h : inr .u64 n) : Does Try.prog 78 [.int .u64 n] [] [1] (Is (.own 1 1 0 8) [(1, some (.arr 1 8 (byteAt (numS n))))]) := by
  refine Does.intro (fn := Try.f78) Try.func78 rfl rfl fun Γ hΓ => ?_
  refine W.run TOK 21 hΓ 1000 ?_
  conv => whnf
  refine ⟨?_, ?_⟩
  repeat' first
    | assumption
    | exact Bool.noConfusion hb
    | exact absurd hb (by decide)
    | (apply W.atRet (π := []) (r' := []) TOK; refine ⟨rfl, rfl, rfl, rfl, ⟨rfl, rfl⟩, ?_, ?_, ?_⟩)
    | ((first | refine W.branch rfl (fun hb => ?_) (fun hb => ?_) | refine D.branch rfl (fun hb => ?_) (fun hb => ?_)) <;> ((try simp only [qhb, addI, reduceCtorEq, Int.reduceToNat] at hb); (try replace hb := of_decide_eq_true hb); (try replace hb := of_decide_eq_false hb)))
    | (refine W.go TOK 21 hΓ 1000 rfl ?_; (conv => whnf); refine ⟨?_, ?_⟩)
    | (refine D.go TOK 21 hΓ 1000 rfl ?_; (conv => whnf); refine ⟨?_, ?_⟩)
    | (refine W.drawn rfl rfl ?_; refine D.run TOK 21 hΓ 1000 ?_; (conv => whnf); refine ⟨?_, ?_⟩)
  all_goals try exact qco0
  refine W.loop (fun i => i ≤ 8) (fun i => 8 - i) (Sp5 n) 0 (Nat.zero_le _) (Weak.via [(5, 5)] rfl rfl rfl ⟨⟨rfl, rfl⟩, ⟨rfl, rfl, rfl, rfl⟩, ⟨rfl, rfl⟩, ⟨rfl, rfl⟩, trivial⟩ ⟨⟨rfl, Nat.le_refl _, fun _ _ => A.sim.refl _⟩, trivial⟩) ?_
  intro i hi ih
  dsimp only [Sp5]
  refine W.run TOK 21 hΓ 1000 ?_
  conv => whnf
  refine ⟨?_, ?_⟩
  repeat' first
    | assumption
    | exact Bool.noConfusion hb
    | exact absurd hb (by decide)
    | (refine W.to (ih (i + 1) ?_ ?_) (Weak.via [(5, 5)] rfl rfl rfl ⟨⟨rfl, rfl⟩, ⟨rfl, rfl, rfl, rfl⟩, ⟨rfl, rfl⟩, ⟨rfl, rfl⟩, trivial⟩ ⟨⟨rfl, Nat.le_refl _, fun j hj => numG_step n h i (by omega) j⟩, trivial⟩))
    | (apply W.atRet (π := [(1, 5)]) (r' := [(1, some (.arr 1 8 (byteAt (numS n))))]) TOK; refine ⟨rfl, rfl, rfl, rfl, ⟨rfl, rfl⟩, ?_, ?_, ?_⟩)
    | ((first | refine W.branch rfl (fun hb => ?_) (fun hb => ?_) | refine D.branch rfl (fun hb => ?_) (fun hb => ?_)) <;> ((try simp only [qhb, addI, reduceCtorEq, Int.reduceToNat] at hb); (try replace hb := of_decide_eq_true hb); (try replace hb := of_decide_eq_false hb)))
    | (refine W.go TOK 21 hΓ 1000 rfl ?_; (conv => whnf); refine ⟨?_, ?_⟩)
    | (refine D.go TOK 21 hΓ 1000 rfl ?_; (conv => whnf); refine ⟨?_, ?_⟩)
    | (refine W.drawn rfl rfl ?_; refine D.run TOK 21 hΓ 1000 ?_; (conv => whnf); refine ⟨?_, ?_⟩)
  all_goals try exact qco0
  all_goals try (exact ⟨rfl, rfl, rfl, rfl⟩)
  all_goals try (exact ⟨⟨rfl, Nat.le_refl _, by
    have : i = 8 := by omega
    subst this
    exact numG_end n⟩, trivial⟩)

def Sp6 (n : Int) (i : Nat) : St := ⟨[(0, .int .u64 n), (3, .own 1 500 0 i), (4, .int .i64 i)], [(500, some (.arr 1 i (byteAt (numS n))))], [500]⟩
theorem catF_eq (n : Nat) (g h : Nat → A) (i : Nat) : catF n g h i = if i < n then g i else h (i - n) := by
  cases n with
  | zero => simp [catF]
  | succ n =>
    simp only [catF]
    by_cases e : i < n + 1
    · rw [show Nat.blt i (n + 1) = true by simp [Nat.blt]; omega, if_pos e]; rfl
    · have : Nat.blt i (n + 1) = false := by
        cases h : Nat.blt i (n + 1) with
        | false => rfl
        | true => exact absurd (blt_lt h) e
      rw [this, if_neg e]; rfl
theorem rnum_does (n : Int) (h : inr .u64 n) : Does Try.prog 33 [.int .u64 n] [] [1] (Is (.own 1 1 0 8) [(1, some (.arr 1 8 (byteAt (numS n))))]) := by
  refine Does.intro (fn := Try.f33) Try.func33 rfl rfl fun Γ hΓ => ?_
  refine W.run TOK 18 hΓ 1000 ?_
  conv => whnf
  refine ⟨?_, ?_⟩
  repeat' first
    | assumption
    | exact Bool.noConfusion hb
    | exact absurd hb (by decide)
    | (apply W.atRet (π := []) (r' := []) TOK; refine ⟨rfl, rfl, rfl, rfl, ⟨rfl, rfl⟩, ?_, ?_, ?_⟩)
    | ((first | refine W.branch rfl (fun hb => ?_) (fun hb => ?_) | refine D.branch rfl (fun hb => ?_) (fun hb => ?_)) <;> ((try simp only [qhb, addI, reduceCtorEq, Int.reduceToNat] at hb); (try replace hb := of_decide_eq_true hb); (try replace hb := of_decide_eq_false hb)))
    | (refine W.go TOK 18 hΓ 1000 rfl ?_; (conv => whnf); refine ⟨?_, ?_⟩)
    | (refine D.go TOK 18 hΓ 1000 rfl ?_; (conv => whnf); refine ⟨?_, ?_⟩)
    | (refine W.drawn rfl rfl ?_; refine D.run TOK 18 hΓ 1000 ?_; (conv => whnf); refine ⟨?_, ?_⟩)
  all_goals try exact qco0
  refine W.addNil 500 1 (byteAt (numS n)) rfl ?_
  refine W.loop (fun i => i ≤ 8) (fun i => 8 - i) (Sp6 n) 0 (Nat.zero_le _) (Weak.via [(500, 500)] rfl rfl rfl ⟨⟨rfl, rfl⟩, rfl, ⟨rfl, rfl⟩, trivial⟩ ⟨⟨rfl, Nat.le_refl _, fun _ _ => A.sim.refl _⟩, trivial⟩) ?_
  intro i hi ih
  dsimp only [Sp6]
  refine W.run TOK 18 hΓ 1000 ?_
  conv => whnf
  refine ⟨?_, ?_⟩
  repeat' first
    | assumption
    | exact Bool.noConfusion hb
    | exact absurd hb (by decide)
    | (refine W.to (ih (i + 1) ?_ ?_) (Weak.via [(500, 16)] rfl rfl rfl ⟨⟨rfl, rfl⟩, ⟨rfl, rfl, rfl, rfl⟩, ⟨rfl, rfl⟩, trivial⟩ ⟨⟨rfl, Nat.le_refl _, fun j hj => ?_⟩, trivial⟩))
    | (apply W.atRet (π := [(1, 500)]) (r' := [(1, some (.arr 1 8 (byteAt (numS n))))]) TOK; refine ⟨rfl, rfl, rfl, rfl, ⟨rfl, rfl⟩, ?_, ?_, ?_⟩)
    | ((first | refine W.branch rfl (fun hb => ?_) (fun hb => ?_) | refine D.branch rfl (fun hb => ?_) (fun hb => ?_)) <;> ((try simp only [qhb, addI, reduceCtorEq, Int.reduceToNat] at hb); (try replace hb := of_decide_eq_true hb); (try replace hb := of_decide_eq_false hb)))
    | (refine W.go TOK 18 hΓ 1000 rfl ?_; (conv => whnf); refine ⟨?_, ?_⟩)
    | (refine D.go TOK 18 hΓ 1000 rfl ?_; (conv => whnf); refine ⟨?_, ?_⟩)
    | (refine W.drawn rfl rfl ?_; refine D.run TOK 18 hΓ 1000 ?_; (conv => whnf); refine ⟨?_, ?_⟩)
  all_goals try exact qco0
  all_goals try (have e8 : i = 8 := by omega
                 subst e8
                 first | exact ⟨rfl, rfl, rfl, rfl⟩ | exact ⟨⟨rfl, Nat.le_refl _, fun _ _ => A.sim.refl _⟩, trivial⟩)
  all_goals try (
    rw [catF_eq]
    by_cases e : j < i
    · rw [if_pos e]; exact .refl _
    · have hji : j < i + 1 := hj
      have : j = i := by omega
      subst this
      rw [if_neg e, Nat.sub_self]
      exact .of (num_byte n h j (by omega)))

end Go.Proofs.Ytcolghonbncpnaa
