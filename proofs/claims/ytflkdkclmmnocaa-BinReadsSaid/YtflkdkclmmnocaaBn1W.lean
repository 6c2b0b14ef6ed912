/- Walks: words, rounds, the permutation, numbers as bytes. -/
import Derived.Test.YtflkdkclmmnocaaTab
import Derived.Test.YtflkdkclmmnocaaSpSpec
set_option linter.unusedSimpArgs false
set_option linter.unusedVariables false
namespace Go.Proofs.Ytflkdkclmmnocaa
open VX
set_option maxRecDepth 100000
set_option maxHeartbeats 4000000

def Sp4 (l : List UInt8) (i : Nat) : St := ⟨[(0, bytesA l), (3, .int .u64 (leN (l.drop i) : Nat)), (4, .int .i64 ((i : Int) - 1))], [], []⟩
theorem rword_does (l : List UInt8) (hl : l.length = 8) : Does Try.prog 24 [bytesA l] [] [] (Is (.int .u64 (leN l : Nat)) []) := by
  refine Does.intro (fn := Try.f24) Try.func24 rfl rfl fun Γ hΓ => ?_
  refine W.run TOK 18 hΓ 1000 ?_
  conv => whnf
  refine ⟨?_, ?_⟩
  repeat' first
    | assumption
    | exact Bool.noConfusion hb
    | exact absurd hb (by decide)
    | (apply W.atRet (π := []) (r' := []) TOK; refine ⟨rfl, rfl, rfl, rfl, ⟨rfl, rfl⟩, ?_, ?_, ?_⟩)
    | (refine W.branch rfl (fun hb => ?_) (fun hb => ?_) <;> ((try simp only [decide_eq_true_eq, decide_eq_false_iff_not, Bool.not_eq_true', Bool.not_eq_false', Int.not_lt, Int.not_le, cond_true, cond_false, reduceCtorEq, Int.toNat_natCast, addI] at hb); (try replace hb := of_decide_eq_true hb); (try replace hb := of_decide_eq_false hb)))
    | (refine D.branch rfl (fun hb => ?_) (fun hb => ?_) <;> ((try simp only [decide_eq_true_eq, decide_eq_false_iff_not, Bool.not_eq_true', Bool.not_eq_false', Int.not_lt, Int.not_le, cond_true, cond_false, reduceCtorEq, Int.toNat_natCast, addI] at hb); (try replace hb := of_decide_eq_true hb); (try replace hb := of_decide_eq_false hb)))
    | (refine W.go TOK 18 hΓ 1000 rfl ?_; (conv => whnf); refine ⟨?_, ?_⟩)
    | (refine D.go TOK 18 hΓ 1000 rfl ?_; (conv => whnf); refine ⟨?_, ?_⟩)
    | (refine W.drawn rfl rfl ?_; refine D.run TOK 18 hΓ 1000 ?_; (conv => whnf); refine ⟨?_, ?_⟩)
  all_goals try (exact trivial)
  all_goals try (exact rfl)
  all_goals try omega
  all_goals try (first
    | (simp only [allP, List.nil_append, List.append_nil, List.cons_append, List.append_eq, and_true, true_and, inr_i64, inr_u8, inr_u64, A.purePL, A.pureP, A.sureP, A.surePL, Int.toNat_natCast, addI, cHi, cLo, hiN, loN, subO, addO, hasIdx, cond_true, cond_false]; done)
    | (simp only [allP, List.nil_append, List.append_nil, List.cons_append, List.append_eq, and_true, true_and, inr_i64, inr_u8, inr_u64, A.purePL, A.pureP, A.sureP, A.surePL, Int.toNat_natCast, addI, cHi, cLo, hiN, loN, subO, addO, hasIdx, cond_true, cond_false]; omega)
    | (simp only [allP, List.nil_append, List.append_nil, List.cons_append, List.append_eq, and_true, true_and, inr_i64, inr_u8, inr_u64, A.purePL, A.pureP, A.sureP, A.surePL, Int.toNat_natCast, addI, cHi, cLo, hiN, loN, subO, addO, hasIdx, cond_true, cond_false]; (repeat' apply And.intro) <;> first | exact trivial | rfl | omega | decide))
  refine W.loop (fun i => i ≤ 8) (fun i => i) (Sp4 l) 8 (Nat.le_refl _) (Weak.via [] rfl rfl rfl ⟨⟨rfl, rfl, fun _ _ => A.sim.refl _⟩, ⟨rfl, by rw [List.drop_of_length_le (by omega)]; rfl⟩, ⟨rfl, rfl⟩, trivial⟩ trivial) ?_
  intro i hi ih
  have hw : 1 ≤ i → bitsI .or .u64 (shlI .u64 ((leN (l.drop i) : Nat) : Int) 8) (IntKind.u64.wrap ((l.getD ((i : Int) - 1).toNat 0).toNat : Int)) = ((leN (l.drop (i - 1)) : Nat) : Int) := fun h => by
    have := be_step l (i - 1) (by omega) (by omega)
    rw [show i - 1 + 1 = i by omega] at this
    rw [show ((i : Int) - 1).toNat = i - 1 by omega]
    exact this
  dsimp only [Sp4]
  refine W.run TOK 18 hΓ 1000 ?_
  conv => whnf
  refine ⟨?_, ?_⟩
  repeat' first
    | assumption
    | exact Bool.noConfusion hb
    | exact absurd hb (by decide)
    | (refine W.to (ih (i - 1) ?_ ?_) (Weak.via [] rfl rfl rfl ⟨⟨rfl, rfl, fun _ _ => A.sim.refl _⟩, ⟨rfl, hw (by omega)⟩, ⟨rfl, by omega⟩, trivial⟩ trivial))
    | (apply W.atRet (π := []) (r' := []) TOK; refine ⟨rfl, rfl, rfl, rfl, ⟨rfl, rfl⟩, ?_, ?_, ?_⟩)
    | (refine W.branch rfl (fun hb => ?_) (fun hb => ?_) <;> ((try simp only [decide_eq_true_eq, decide_eq_false_iff_not, Bool.not_eq_true', Bool.not_eq_false', Int.not_lt, Int.not_le, cond_true, cond_false, reduceCtorEq, Int.toNat_natCast, addI] at hb); (try replace hb := of_decide_eq_true hb); (try replace hb := of_decide_eq_false hb)))
    | (refine D.branch rfl (fun hb => ?_) (fun hb => ?_) <;> ((try simp only [decide_eq_true_eq, decide_eq_false_iff_not, Bool.not_eq_true', Bool.not_eq_false', Int.not_lt, Int.not_le, cond_true, cond_false, reduceCtorEq, Int.toNat_natCast, addI] at hb); (try replace hb := of_decide_eq_true hb); (try replace hb := of_decide_eq_false hb)))
    | (refine W.go TOK 18 hΓ 1000 rfl ?_; (conv => whnf); refine ⟨?_, ?_⟩)
    | (refine D.go TOK 18 hΓ 1000 rfl ?_; (conv => whnf); refine ⟨?_, ?_⟩)
    | (refine W.drawn rfl rfl ?_; refine D.run TOK 18 hΓ 1000 ?_; (conv => whnf); refine ⟨?_, ?_⟩)
  all_goals try (exact trivial)
  all_goals try (exact rfl)
  all_goals try omega
  all_goals try (first
    | (simp only [allP, List.nil_append, List.append_nil, List.cons_append, List.append_eq, and_true, true_and, inr_i64, inr_u8, inr_u64, A.purePL, A.pureP, A.sureP, A.surePL, Int.toNat_natCast, addI, cHi, cLo, hiN, loN, subO, addO, hasIdx, cond_true, cond_false]; done)
    | (simp only [allP, List.nil_append, List.append_nil, List.cons_append, List.append_eq, and_true, true_and, inr_i64, inr_u8, inr_u64, A.purePL, A.pureP, A.sureP, A.surePL, Int.toNat_natCast, addI, cHi, cLo, hiN, loN, subO, addO, hasIdx, cond_true, cond_false]; omega)
    | (simp only [allP, List.nil_append, List.append_nil, List.cons_append, List.append_eq, and_true, true_and, inr_i64, inr_u8, inr_u64, A.purePL, A.pureP, A.sureP, A.surePL, Int.toNat_natCast, addI, cHi, cLo, hiN, loN, subO, addO, hasIdx, cond_true, cond_false]; (repeat' apply And.intro) <;> first | exact trivial | rfl | omega | decide))
  all_goals try (exact ⟨rfl, by
    have : i = 0 := by omega
    subst this
    rfl⟩)

def numG (n : Int) (i : Nat) : Nat → A := fun j => bif Nat.blt j i then byteAt (numS n) j else .int .u8 0
theorem numG_step (n : Int) (h : inr .u64 n) (i : Nat) (hi : i < 8) (j : Nat) : (setF (numG n i) i (.int .u8 (IntKind.u8.wrap (shrI .u64 n (8 * (i : Int))))) j).sim (numG n (i + 1) j) := by
  have e := num_byte n h i hi
  refine .of ?_
  unfold setF numG
  by_cases h1 : j = i
  · subst h1
    rw [Nat.beq_refl, cond_true, show (Nat.blt j (j + 1)) = true by simp [Nat.blt]]
    exact e
  · rw [nbeq_ne h1, cond_false]
    by_cases h2 : j < i
    · rw [show Nat.blt j i = true by simp [Nat.blt]; omega, show Nat.blt j (i + 1) = true by simp [Nat.blt]; omega]
    · have q : ∀ k, ¬ j < k → Nat.blt j k = false := fun k hk => by
        cases e : Nat.blt j k with
        | false => rfl
        | true => exact absurd (blt_lt e) hk
      rw [q i h2, q (i + 1) (by omega)]
theorem numG_end (n : Int) (j : Nat) (hj : j < 8) : (numG n 8 j).sim (byteAt (numS n) j) := by
  refine .of ?_
  unfold numG
  rw [show Nat.blt j 8 = true by simp [Nat.blt]; omega]; rfl
def Sp5 (n : Int) (i : Nat) : St := ⟨[(0, .int .u64 n), (3, .own 1 5 0 8), (7, .int .i64 8), (8, .int .i64 i)], [(5, some (.arr 1 8 (numG n i)))], [5]⟩
theorem num_does (n : Int) (h : inr .u64 n) : Does Try.prog 10 [.int .u64 n] [] [1] (Is (.own 1 1 0 8) [(1, some (.arr 1 8 (byteAt (numS n))))]) := by
  refine Does.intro (fn := Try.f10) Try.func10 rfl rfl fun Γ hΓ => ?_
  refine W.run TOK 21 hΓ 1000 ?_
  conv => whnf
  refine ⟨?_, ?_⟩
  repeat' first
    | assumption
    | exact Bool.noConfusion hb
    | exact absurd hb (by decide)
    | (apply W.atRet (π := []) (r' := []) TOK; refine ⟨rfl, rfl, rfl, rfl, ⟨rfl, rfl⟩, ?_, ?_, ?_⟩)
    | (refine W.branch rfl (fun hb => ?_) (fun hb => ?_) <;> ((try simp only [decide_eq_true_eq, decide_eq_false_iff_not, Bool.not_eq_true', Bool.not_eq_false', Int.not_lt, Int.not_le, cond_true, cond_false, reduceCtorEq, Int.toNat_natCast, addI] at hb); (try replace hb := of_decide_eq_true hb); (try replace hb := of_decide_eq_false hb)))
    | (refine D.branch rfl (fun hb => ?_) (fun hb => ?_) <;> ((try simp only [decide_eq_true_eq, decide_eq_false_iff_not, Bool.not_eq_true', Bool.not_eq_false', Int.not_lt, Int.not_le, cond_true, cond_false, reduceCtorEq, Int.toNat_natCast, addI] at hb); (try replace hb := of_decide_eq_true hb); (try replace hb := of_decide_eq_false hb)))
    | (refine W.go TOK 21 hΓ 1000 rfl ?_; (conv => whnf); refine ⟨?_, ?_⟩)
    | (refine D.go TOK 21 hΓ 1000 rfl ?_; (conv => whnf); refine ⟨?_, ?_⟩)
    | (refine W.drawn rfl rfl ?_; refine D.run TOK 21 hΓ 1000 ?_; (conv => whnf); refine ⟨?_, ?_⟩)
  all_goals try (exact trivial)
  all_goals try (exact rfl)
  all_goals try omega
  all_goals try (first
    | (simp only [allP, List.nil_append, List.append_nil, List.cons_append, List.append_eq, and_true, true_and, inr_i64, inr_u8, inr_u64, A.purePL, A.pureP, A.sureP, A.surePL, Int.toNat_natCast, addI, cHi, cLo, hiN, loN, subO, addO, hasIdx, cond_true, cond_false]; done)
    | (simp only [allP, List.nil_append, List.append_nil, List.cons_append, List.append_eq, and_true, true_and, inr_i64, inr_u8, inr_u64, A.purePL, A.pureP, A.sureP, A.surePL, Int.toNat_natCast, addI, cHi, cLo, hiN, loN, subO, addO, hasIdx, cond_true, cond_false]; omega)
    | (simp only [allP, List.nil_append, List.append_nil, List.cons_append, List.append_eq, and_true, true_and, inr_i64, inr_u8, inr_u64, A.purePL, A.pureP, A.sureP, A.surePL, Int.toNat_natCast, addI, cHi, cLo, hiN, loN, subO, addO, hasIdx, cond_true, cond_false]; (repeat' apply And.intro) <;> first | exact trivial | rfl | omega | decide))
  refine W.loop (fun i => i ≤ 8) (fun i => 8 - i) (Sp5 n) 0 (Nat.zero_le _) (Weak.via [(5, 5)] rfl rfl rfl ⟨⟨rfl, rfl⟩, ⟨rfl, rfl, rfl, rfl⟩, ⟨rfl, rfl⟩, ⟨rfl, rfl⟩, trivial⟩ ⟨⟨rfl, Nat.le_refl _, fun _ _ => A.sim.refl _⟩, trivial⟩) ?_
  intro i hi ih
  dsimp only [Sp5]
  refine W.run TOK 21 hΓ 1000 ?_
  conv => whnf
  refine ⟨?_, ?_⟩
  repeat' first
    | assumption
    | exact Bool.noConfusion hb
    | exact absurd hb (by decide)
    | (refine W.to (ih (i + 1) ?_ ?_) (Weak.via [(5, 5)] rfl rfl rfl ⟨⟨rfl, rfl⟩, ⟨rfl, rfl, rfl, rfl⟩, ⟨rfl, rfl⟩, ⟨rfl, rfl⟩, trivial⟩ ⟨⟨rfl, Nat.le_refl _, fun j hj => numG_step n h i (by omega) j⟩, trivial⟩))
    | (apply W.atRet (π := [(1, 5)]) (r' := [(1, some (.arr 1 8 (byteAt (numS n))))]) TOK; refine ⟨rfl, rfl, rfl, rfl, ⟨rfl, rfl⟩, ?_, ?_, ?_⟩)
    | (refine W.branch rfl (fun hb => ?_) (fun hb => ?_) <;> ((try simp only [decide_eq_true_eq, decide_eq_false_iff_not, Bool.not_eq_true', Bool.not_eq_false', Int.not_lt, Int.not_le, cond_true, cond_false, reduceCtorEq, Int.toNat_natCast, addI] at hb); (try replace hb := of_decide_eq_true hb); (try replace hb := of_decide_eq_false hb)))
    | (refine D.branch rfl (fun hb => ?_) (fun hb => ?_) <;> ((try simp only [decide_eq_true_eq, decide_eq_false_iff_not, Bool.not_eq_true', Bool.not_eq_false', Int.not_lt, Int.not_le, cond_true, cond_false, reduceCtorEq, Int.toNat_natCast, addI] at hb); (try replace hb := of_decide_eq_true hb); (try replace hb := of_decide_eq_false hb)))
    | (refine W.go TOK 21 hΓ 1000 rfl ?_; (conv => whnf); refine ⟨?_, ?_⟩)
    | (refine D.go TOK 21 hΓ 1000 rfl ?_; (conv => whnf); refine ⟨?_, ?_⟩)
    | (refine W.drawn rfl rfl ?_; refine D.run TOK 21 hΓ 1000 ?_; (conv => whnf); refine ⟨?_, ?_⟩)
  all_goals try (exact trivial)
  all_goals try (exact rfl)
  all_goals try omega
  all_goals try (first
    | (simp only [allP, List.nil_append, List.append_nil, List.cons_append, List.append_eq, and_true, true_and, inr_i64, inr_u8, inr_u64, A.purePL, A.pureP, A.sureP, A.surePL, Int.toNat_natCast, addI, cHi, cLo, hiN, loN, subO, addO, hasIdx, cond_true, cond_false]; done)
    | (simp only [allP, List.nil_append, List.append_nil, List.cons_append, List.append_eq, and_true, true_and, inr_i64, inr_u8, inr_u64, A.purePL, A.pureP, A.sureP, A.surePL, Int.toNat_natCast, addI, cHi, cLo, hiN, loN, subO, addO, hasIdx, cond_true, cond_false]; omega)
    | (simp only [allP, List.nil_append, List.append_nil, List.cons_append, List.append_eq, and_true, true_and, inr_i64, inr_u8, inr_u64, A.purePL, A.pureP, A.sureP, A.surePL, Int.toNat_natCast, addI, cHi, cLo, hiN, loN, subO, addO, hasIdx, cond_true, cond_false]; (repeat' apply And.intro) <;> first | exact trivial | rfl | omega | decide))
  all_goals try (exact ⟨rfl, rfl, rfl, rfl⟩)
  all_goals try (exact ⟨⟨rfl, Nat.le_refl _, by
    have : i = 8 := by omega
    subst this
    exact numG_end n⟩, trivial⟩)

def Sp6 (n : Int) (i : Nat) : St := ⟨[(0, .int .u64 n), (3, .own 1 500 0 i), (4, .int .i64 i)], [(500, some (.arr 1 i (byteAt (numS n))))], [500]⟩
theorem catF_eq (n : Nat) (g h : Nat → A) (i : Nat) : catF n g h i = if i < n then g i else h (i - n) := by
  cases n with
  | zero => simp [catF]
  | succ n =>
    simp only [catF]
    by_cases e : i < n + 1
    · rw [show Nat.blt i (n + 1) = true by simp [Nat.blt]; omega, if_pos e]; rfl
    · have : Nat.blt i (n + 1) = false := by
        cases h : Nat.blt i (n + 1) with
        | false => rfl
        | true => exact absurd (blt_lt h) e
      rw [this, if_neg e]; rfl
theorem rnum_does (n : Int) (h : inr .u64 n) : Does Try.prog 11 [.int .u64 n] [] [1] (Is (.own 1 1 0 8) [(1, some (.arr 1 8 (byteAt (numS n))))]) := by
  refine Does.intro (fn := Try.f11) Try.func11 rfl rfl fun Γ hΓ => ?_
  refine W.run TOK 18 hΓ 1000 ?_
  conv => whnf
  refine ⟨?_, ?_⟩
  repeat' first
    | assumption
    | exact Bool.noConfusion hb
    | exact absurd hb (by decide)
    | (apply W.atRet (π := []) (r' := []) TOK; refine ⟨rfl, rfl, rfl, rfl, ⟨rfl, rfl⟩, ?_, ?_, ?_⟩)
    | (refine W.branch rfl (fun hb => ?_) (fun hb => ?_) <;> ((try simp only [decide_eq_true_eq, decide_eq_false_iff_not, Bool.not_eq_true', Bool.not_eq_false', Int.not_lt, Int.not_le, cond_true, cond_false, reduceCtorEq, Int.toNat_natCast, addI] at hb); (try replace hb := of_decide_eq_true hb); (try replace hb := of_decide_eq_false hb)))
    | (refine D.branch rfl (fun hb => ?_) (fun hb => ?_) <;> ((try simp only [decide_eq_true_eq, decide_eq_false_iff_not, Bool.not_eq_true', Bool.not_eq_false', Int.not_lt, Int.not_le, cond_true, cond_false, reduceCtorEq, Int.toNat_natCast, addI] at hb); (try replace hb := of_decide_eq_true hb); (try replace hb := of_decide_eq_false hb)))
    | (refine W.go TOK 18 hΓ 1000 rfl ?_; (conv => whnf); refine ⟨?_, ?_⟩)
    | (refine D.go TOK 18 hΓ 1000 rfl ?_; (conv => whnf); refine ⟨?_, ?_⟩)
    | (refine W.drawn rfl rfl ?_; refine D.run TOK 18 hΓ 1000 ?_; (conv => whnf); refine ⟨?_, ?_⟩)
  all_goals try (exact trivial)
  all_goals try (exact rfl)
  all_goals try omega
  all_goals try (first
    | (simp only [allP, List.nil_append, List.append_nil, List.cons_append, List.append_eq, and_true, true_and, inr_i64, inr_u8, inr_u64, A.purePL, A.pureP, A.sureP, A.surePL, Int.toNat_natCast, addI, cHi, cLo, hiN, loN, subO, addO, hasIdx, cond_true, cond_false]; done)
    | (simp only [allP, List.nil_append, List.append_nil, List.cons_append, List.append_eq, and_true, true_and, inr_i64, inr_u8, inr_u64, A.purePL, A.pureP, A.sureP, A.surePL, Int.toNat_natCast, addI, cHi, cLo, hiN, loN, subO, addO, hasIdx, cond_true, cond_false]; omega)
    | (simp only [allP, List.nil_append, List.append_nil, List.cons_append, List.append_eq, and_true, true_and, inr_i64, inr_u8, inr_u64, A.purePL, A.pureP, A.sureP, A.surePL, Int.toNat_natCast, addI, cHi, cLo, hiN, loN, subO, addO, hasIdx, cond_true, cond_false]; (repeat' apply And.intro) <;> first | exact trivial | rfl | omega | decide))
  refine W.addNil 500 1 (byteAt (numS n)) rfl ?_
  refine W.loop (fun i => i ≤ 8) (fun i => 8 - i) (Sp6 n) 0 (Nat.zero_le _) (Weak.via [(500, 500)] rfl rfl rfl ⟨⟨rfl, rfl⟩, rfl, ⟨rfl, rfl⟩, trivial⟩ ⟨⟨rfl, Nat.le_refl _, fun _ _ => A.sim.refl _⟩, trivial⟩) ?_
  intro i hi ih
  dsimp only [Sp6]
  refine W.run TOK 18 hΓ 1000 ?_
  conv => whnf
  refine ⟨?_, ?_⟩
  repeat' first
    | assumption
    | exact Bool.noConfusion hb
    | exact absurd hb (by decide)
    | (refine W.to (ih (i + 1) ?_ ?_) (Weak.via [(500, 16)] rfl rfl rfl ⟨⟨rfl, rfl⟩, ⟨rfl, rfl, rfl, rfl⟩, ⟨rfl, rfl⟩, trivial⟩ ⟨⟨rfl, Nat.le_refl _, fun j hj => ?_⟩, trivial⟩))
    | (apply W.atRet (π := [(1, 500)]) (r' := [(1, some (.arr 1 8 (byteAt (numS n))))]) TOK; refine ⟨rfl, rfl, rfl, rfl, ⟨rfl, rfl⟩, ?_, ?_, ?_⟩)
    | (refine W.branch rfl (fun hb => ?_) (fun hb => ?_) <;> ((try simp only [decide_eq_true_eq, decide_eq_false_iff_not, Bool.not_eq_true', Bool.not_eq_false', Int.not_lt, Int.not_le, cond_true, cond_false, reduceCtorEq, Int.toNat_natCast, addI] at hb); (try replace hb := of_decide_eq_true hb); (try replace hb := of_decide_eq_false hb)))
    | (refine D.branch rfl (fun hb => ?_) (fun hb => ?_) <;> ((try simp only [decide_eq_true_eq, decide_eq_false_iff_not, Bool.not_eq_true', Bool.not_eq_false', Int.not_lt, Int.not_le, cond_true, cond_false, reduceCtorEq, Int.toNat_natCast, addI] at hb); (try replace hb := of_decide_eq_true hb); (try replace hb := of_decide_eq_false hb)))
    | (refine W.go TOK 18 hΓ 1000 rfl ?_; (conv => whnf); refine ⟨?_, ?_⟩)
    | (refine D.go TOK 18 hΓ 1000 rfl ?_; (conv => whnf); refine ⟨?_, ?_⟩)
    | (refine W.drawn rfl rfl ?_; refine D.run TOK 18 hΓ 1000 ?_; (conv => whnf); refine ⟨?_, ?_⟩)
  all_goals try (exact trivial)
  all_goals try (exact rfl)
  all_goals try omega
  all_goals try (first
    | (simp only [allP, List.nil_append, List.append_nil, List.cons_append, List.append_eq, and_true, true_and, inr_i64, inr_u8, inr_u64, A.purePL, A.pureP, A.sureP, A.surePL, Int.toNat_natCast, addI, cHi, cLo, hiN, loN, subO, addO, hasIdx, cond_true, cond_false]; done)
    | (simp only [allP, List.nil_append, List.append_nil, List.cons_append, List.append_eq, and_true, true_and, inr_i64, inr_u8, inr_u64, A.purePL, A.pureP, A.sureP, A.surePL, Int.toNat_natCast, addI, cHi, cLo, hiN, loN, subO, addO, hasIdx, cond_true, cond_false]; omega)
    | (simp only [allP, List.nil_append, List.append_nil, List.cons_append, List.append_eq, and_true, true_and, inr_i64, inr_u8, inr_u64, A.purePL, A.pureP, A.sureP, A.surePL, Int.toNat_natCast, addI, cHi, cLo, hiN, loN, subO, addO, hasIdx, cond_true, cond_false]; (repeat' apply And.intro) <;> first | exact trivial | rfl | omega | decide))
  all_goals try (have e8 : i = 8 := by omega
                 subst e8
                 first | exact ⟨rfl, rfl, rfl, rfl⟩ | exact ⟨⟨rfl, Nat.le_refl _, fun _ _ => A.sim.refl _⟩, trivial⟩)
  all_goals try (
    rw [catF_eq]
    by_cases e : j < i
    · rw [if_pos e]; exact .refl _
    · have hji : j < i + 1 := hj
      have : j = i := by omega
      subst this
      rw [if_neg e, Nat.sub_self]
      exact .of (num_byte n h j (by omega)))

end Go.Proofs.Ytflkdkclmmnocaa
