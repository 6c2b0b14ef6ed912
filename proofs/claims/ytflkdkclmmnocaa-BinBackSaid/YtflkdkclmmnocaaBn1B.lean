/- Walks: the statements of layer 1. -/
import Derived.Test.YtflkdkclmmnocaaBn1K
import Derived.Test.YtflkdkclmmnocaaByL
set_option linter.unusedSimpArgs false
set_option linter.unusedVariables false
namespace Go.Proofs.Ytflkdkclmmnocaa
open VX
set_option maxRecDepth 100000
set_option maxHeartbeats 4000000

def one (L : List (List UInt8)) (ns : List Int) (j : Nat) : List UInt8 := numS (ns.getD j default) ++ lumpS (L.getD j default)
def backS (L : List (List UInt8)) (ns : List Int) (i : Nat) : List UInt8 := (List.range i).flatMap (one L ns)
def rstS (L : List (List UInt8)) (ns : List Int) (i : Nat) : List UInt8 := (List.range' i (L.length - i)).flatMap (one L ns)
theorem backS_succ (L : List (List UInt8)) (ns : List Int) (i : Nat) : backS L ns (i + 1) = backS L ns i ++ numS (ns.getD i default) ++ lumpS (L.getD i default) := by
  unfold backS
  rw [List.range_succ, List.flatMap_append]
  simp [one]
theorem rstS_zero (L : List (List UInt8)) (ns : List Int) : rstS L ns 0 = backS L ns L.length := by
  unfold rstS backS
  rw [Nat.sub_zero, List.range_eq_range']
theorem rstS_succ (L : List (List UInt8)) (ns : List Int) (i : Nat) (h : i < L.length) : rstS L ns i = numS (ns.getD i default) ++ (lumpS (L.getD i default) ++ rstS L ns (i + 1)) := by
  unfold rstS
  rw [show L.length - i = (L.length - (i + 1)) + 1 by omega, List.range'_succ, List.flatMap_cons]
  simp [one]
theorem rstS_end (L : List (List UInt8)) (ns : List Int) : rstS L ns L.length = [] := by simp [rstS]
theorem backS_len (L : List (List UInt8)) (ns : List Int) : ∀ (i : Nat), (∀ j, j < i → (L.getD j default).length ≤ 40) → (backS L ns i).length ≤ 56 * i
  | 0, _ => by simp [backS]
  | i + 1, h => by
    have ih := backS_len L ns i fun j hj => h j (by omega)
    have := h i (by omega)
    rw [backS_succ, List.length_append, List.length_append, numS_length, lumpS_length]
    omega
theorem rstS_len (L : List (List UInt8)) (ns : List Int) (h : ∀ j, j < L.length → (L.getD j default).length ≤ 40) (hL : L.length ≤ 10) : ∀ (k i : Nat), i + k = L.length → (rstS L ns i).length ≤ 56 * k
  | 0, i, e => by rw [show i = L.length by omega, rstS_end]; simp
  | k + 1, i, e => by
    have ih := rstS_len L ns h hL k (i + 1) (by omega)
    have := h i (by omega)
    rw [rstS_succ L ns i (by omega), List.length_append, List.length_append, numS_length, lumpS_length]
    omega
theorem mem_getD {α : Type} [Inhabited α] {l : List α} {p : α → Prop} (h : ∀ a ∈ l, p a) {i : Nat} (hi : i < l.length) : p (l.getD i default) := by
  rw [List.getD_eq_getElem?_getD, List.getElem?_eq_getElem hi]
  exact h _ (List.getElem_mem hi)
theorem back_does (L : List (List UInt8)) (ns : List Int) (hL0 : L.length ≤ 9223372036854775807) (hn0 : ns.length ≤ 9223372036854775807) (hns : ∀ a ∈ ns, inr .u64 a) : Does Try.prog 4 [sl 1 bytesA L, sl 1 (A.int .u64) ns] [] [] Yes := by
  refine Does.intro (fn := Try.f4) Try.func4 rfl rfl fun Γ hΓ => ?_
  refine W.run TOK 91 hΓ 1000 ?_
  conv => whnf
  refine ⟨?_, ?_⟩
  repeat' first
    | assumption
    | exact Bool.noConfusion hb
    | exact absurd hb (by decide)
    | (refine W.retY TOK rfl rfl ⟨?_, ?_⟩)
    | (refine W.branch rfl (fun hb => ?_) (fun hb => ?_) <;> ((try simp only [decide_eq_true_eq, decide_eq_false_iff_not, Bool.not_eq_true', Bool.not_eq_false', Int.not_lt, Int.not_le, cond_true, cond_false, reduceCtorEq, Int.toNat_natCast, addI] at hb); (try replace hb := of_decide_eq_true hb); (try replace hb := of_decide_eq_false hb)))
    | (refine D.branch rfl (fun hb => ?_) (fun hb => ?_) <;> ((try simp only [decide_eq_true_eq, decide_eq_false_iff_not, Bool.not_eq_true', Bool.not_eq_false', Int.not_lt, Int.not_le, cond_true, cond_false, reduceCtorEq, Int.toNat_natCast, addI] at hb); (try replace hb := of_decide_eq_true hb); (try replace hb := of_decide_eq_false hb)))
    | (refine D.callA (known_does) rfl rfl rfl rfl hΓ rfl ?_; (conv => whnf); refine ⟨rfl, rfl, rfl, ?_, ?_, ?_, ?_⟩; rotate_left 3; (conv => whnf))
    | (refine W.callA (known_does) rfl rfl rfl rfl hΓ rfl ?_; (conv => whnf); refine ⟨rfl, rfl, ?_, ?_, ?_, ?_⟩; rotate_left 3; (conv => whnf))
    | (refine W.go TOK 91 hΓ 1000 rfl ?_; (conv => whnf); refine ⟨?_, ?_⟩)
    | (refine D.go TOK 91 hΓ 1000 rfl ?_; (conv => whnf); refine ⟨?_, ?_⟩)
    | (refine W.drawn rfl rfl ?_; refine D.run TOK 91 hΓ 1000 ?_; (conv => whnf); refine ⟨?_, ?_⟩)
  all_goals (repeat' apply And.intro)
  all_goals try (first
    | exact trivial
    | exact rfl
    | exact fun _ _ => A.sim.refl _
    | exact A.sim.refl _
    | omega
    | exact fun _ h => absurd h (Nat.not_lt_zero _)
    | exact fun i _ => isInt_byteAt _ i
    | (simp only [allP, List.nil_append, List.append_nil, List.cons_append, List.append_eq, and_true, true_and, inr_i64, inr_u8, inr_u64, min_i64, max_i64, min_u64, max_u64, min_u8, max_u8, A.purePL, A.pureP, A.sureP, A.surePL, Int.toNat_natCast, addI, cHi, cLo, hiN, loN, subO, addO, hasIdx, cond_true, cond_false]; done)
    | (simp only [allP, List.nil_append, List.append_nil, List.cons_append, List.append_eq, and_true, true_and, inr_i64, inr_u8, inr_u64, min_i64, max_i64, min_u64, max_u64, min_u8, max_u8, A.purePL, A.pureP, A.sureP, A.surePL, Int.toNat_natCast, addI, cHi, cLo, hiN, loN, subO, addO, hasIdx, cond_true, cond_false]; omega)
    | (simp only [allP, List.nil_append, List.append_nil, List.cons_append, List.append_eq, and_true, true_and, inr_i64, inr_u8, inr_u64, min_i64, max_i64, min_u64, max_u64, min_u8, max_u8, A.purePL, A.pureP, A.sureP, A.surePL, Int.toNat_natCast, addI, cHi, cLo, hiN, loN, subO, addO, hasIdx, cond_true, cond_false]; (repeat' apply And.intro) <;> first | exact trivial | rfl | omega | decide)
    )
  have hL10 : L.length ≤ 10 := by omega
  have hLn : L.length ≤ ns.length := by omega
  refine W.loopA (Nat) (fun i => i ≤ L.length ∧ ∀ j, j < i → (L.getD j default).length ≤ 40) (fun i => L.length - i) (fun i => [(5, .own 1 500 0 (backS L ns i).length), (6, .int .i64 i)]) (fun i => [(500, some (.arr 1 (backS L ns i).length (byteAt (backS L ns i))))]) [] (0) ⟨Nat.zero_le _, fun _ h => absurd h (Nat.not_lt_zero _)⟩ ?_
  (conv => whnf); refine ⟨by ((conv => whnf); refine ⟨rfl, rfl, rfl, rfl, rfl, rfl, ?_, ?_⟩ <;> (repeat' apply And.intro) <;> first | exact trivial | exact rfl | exact fun _ _ => A.sim.refl _ | exact Nat.le_refl _ | exact fun _ h => absurd h (Nat.not_lt_zero _) | omega), ?_⟩
  rintro i ⟨hi, hj⟩ ih
  have hlen := backS_len L ns i hj
  have hn : i < L.length → inr .u64 (ns.getD i default) := fun h => mem_getD hns (by omega)
  have hs : i < L.length → (backS L ns (i + 1)).length = (backS L ns i).length + 8 + (8 + (L.getD i default).length) := fun _ => by rw [backS_succ, List.length_append, List.length_append, numS_length, lumpS_length]
  have hcat : ∀ n j, j < n → (catF ((backS L ns i).length + 8) (catF (backS L ns i).length (byteAt (backS L ns i)) (shiftF 0 (byteAt (numS (ns.getD i default))))) (shiftF 0 (byteAt (lumpS (L.getD i default)))) j).sim (byteAt (backS L ns (i + 1)) j) := fun n j _ => by
    rw [shift_fun, shift_fun, List.drop_zero, List.drop_zero, cat_fun rfl, cat_fun (by rw [List.length_append, numS_length]), ← backS_succ]; exact .refl _
  have hj1 : (L.getD i default).length ≤ 40 → ∀ j, j < i + 1 → (L.getD j default).length ≤ 40 := fun h j hlt => by
    rcases Nat.lt_succ_iff_lt_or_eq.1 hlt with h1 | h1
    · exact hj j h1
    · rw [h1]; exact h
  refine W.run TOK 91 hΓ 1000 ?_
  conv => whnf
  refine ⟨?_, ?_⟩
  repeat' first
    | assumption
    | exact Bool.noConfusion hb
    | exact absurd hb (by decide)
    | (refine W.toA (ih (i + 1) ?_ ?_) ?_; rotate_left 2; (conv => whnf); refine ⟨rfl, rfl, rfl, rfl, rfl, rfl, ?_, ?_⟩)
    | (refine W.retY TOK rfl rfl ⟨?_, ?_⟩)
    | (refine W.branch rfl (fun hb => ?_) (fun hb => ?_) <;> ((try simp only [decide_eq_true_eq, decide_eq_false_iff_not, Bool.not_eq_true', Bool.not_eq_false', Int.not_lt, Int.not_le, cond_true, cond_false, reduceCtorEq, Int.toNat_natCast, addI] at hb); (try replace hb := of_decide_eq_true hb); (try replace hb := of_decide_eq_false hb)))
    | (refine D.branch rfl (fun hb => ?_) (fun hb => ?_) <;> ((try simp only [decide_eq_true_eq, decide_eq_false_iff_not, Bool.not_eq_true', Bool.not_eq_false', Int.not_lt, Int.not_le, cond_true, cond_false, reduceCtorEq, Int.toNat_natCast, addI] at hb); (try replace hb := of_decide_eq_true hb); (try replace hb := of_decide_eq_false hb)))
    | (refine D.callA (num_does (ns.getD i default) (hn (by omega))) rfl rfl rfl rfl hΓ rfl ?_; (conv => whnf); refine ⟨rfl, rfl, rfl, ?_, ?_, ?_, ?_⟩; rotate_left 3; (conv => whnf))
    | (refine W.callA (num_does (ns.getD i default) (hn (by omega))) rfl rfl rfl rfl hΓ rfl ?_; (conv => whnf); refine ⟨rfl, rfl, ?_, ?_, ?_, ?_⟩; rotate_left 3; (conv => whnf))
    | (refine D.callA (lump_does (L.getD i default) (by omega)) rfl rfl rfl rfl hΓ rfl ?_; (conv => whnf); refine ⟨rfl, rfl, rfl, ?_, ?_, ?_, ?_⟩; rotate_left 3; (conv => whnf))
    | (refine W.callA (lump_does (L.getD i default) (by omega)) rfl rfl rfl rfl hΓ rfl ?_; (conv => whnf); refine ⟨rfl, rfl, ?_, ?_, ?_, ?_⟩; rotate_left 3; (conv => whnf))
    | (refine W.go TOK 91 hΓ 1000 rfl ?_; (conv => whnf); refine ⟨?_, ?_⟩)
    | (refine D.go TOK 91 hΓ 1000 rfl ?_; (conv => whnf); refine ⟨?_, ?_⟩)
    | (refine W.drawn rfl rfl ?_; refine D.run TOK 91 hΓ 1000 ?_; (conv => whnf); refine ⟨?_, ?_⟩)
  all_goals (repeat' apply And.intro)
  all_goals try (first
    | exact trivial
    | exact rfl
    | exact fun _ _ => A.sim.refl _
    | exact A.sim.refl _
    | omega
    | exact fun _ h => absurd h (Nat.not_lt_zero _)
    | exact fun i _ => isInt_byteAt _ i
    | exact hcat _
    | exact hj1 (by omega)
    | (simp only [allP, List.nil_append, List.append_nil, List.cons_append, List.append_eq, and_true, true_and, inr_i64, inr_u8, inr_u64, min_i64, max_i64, min_u64, max_u64, min_u8, max_u8, A.purePL, A.pureP, A.sureP, A.surePL, Int.toNat_natCast, addI, cHi, cLo, hiN, loN, subO, addO, hasIdx, cond_true, cond_false]; done)
    | (simp only [allP, List.nil_append, List.append_nil, List.cons_append, List.append_eq, and_true, true_and, inr_i64, inr_u8, inr_u64, min_i64, max_i64, min_u64, max_u64, min_u8, max_u8, A.purePL, A.pureP, A.sureP, A.surePL, Int.toNat_natCast, addI, cHi, cLo, hiN, loN, subO, addO, hasIdx, cond_true, cond_false]; omega)
    | (simp only [allP, List.nil_append, List.append_nil, List.cons_append, List.append_eq, and_true, true_and, inr_i64, inr_u8, inr_u64, min_i64, max_i64, min_u64, max_u64, min_u8, max_u8, A.purePL, A.pureP, A.sureP, A.surePL, Int.toNat_natCast, addI, cHi, cLo, hiN, loN, subO, addO, hasIdx, cond_true, cond_false]; (repeat' apply And.intro) <;> first | exact trivial | rfl | omega | decide)
    )
  have hi : i = L.length := by omega
  subst hi
  clear ih hs hcat hj1 hn
  refine W.cutA [46, 0, 1] [500] ?_
  (conv => whnf); refine ⟨by ((conv => whnf); refine ⟨rfl, rfl, rfl, rfl, rfl, rfl, ?_, ?_⟩ <;> (repeat' apply And.intro) <;> first | exact trivial | exact rfl | exact fun _ _ => A.sim.refl _ | exact Nat.le_refl _ | exact fun _ h => absurd h (Nat.not_lt_zero _) | omega | exact fun i _ => shift_sim _ _ i), ?_⟩
  have hlr : ∀ i, i ≤ L.length → (rstS L ns i).length ≤ 560 := fun i hi => by have := rstS_len L ns hj hL10 (L.length - i) i (by omega); omega
  have hb1 : (rstS L ns 0).length ≤ 1000000000000 := by have := hlr 0 (by omega); omega
  rw [← rstS_zero]
  refine W.run TOK 91 hΓ 1000 ?_
  conv => whnf
  refine ⟨?_, ?_⟩
  repeat' first
    | assumption
    | exact Bool.noConfusion hb
    | exact absurd hb (by decide)
    | (refine W.retY TOK rfl rfl ⟨?_, ?_⟩)
    | (refine W.branch rfl (fun hb => ?_) (fun hb => ?_) <;> ((try simp only [decide_eq_true_eq, decide_eq_false_iff_not, Bool.not_eq_true', Bool.not_eq_false', Int.not_lt, Int.not_le, cond_true, cond_false, reduceCtorEq, Int.toNat_natCast, addI] at hb); (try replace hb := of_decide_eq_true hb); (try replace hb := of_decide_eq_false hb)))
    | (refine D.branch rfl (fun hb => ?_) (fun hb => ?_) <;> ((try simp only [decide_eq_true_eq, decide_eq_false_iff_not, Bool.not_eq_true', Bool.not_eq_false', Int.not_lt, Int.not_le, cond_true, cond_false, reduceCtorEq, Int.toNat_natCast, addI] at hb); (try replace hb := of_decide_eq_true hb); (try replace hb := of_decide_eq_false hb)))
    | (refine D.callA (new_does (rstS L ns 0) hb1) rfl rfl rfl rfl hΓ rfl ?_; (conv => whnf); refine ⟨rfl, rfl, rfl, ?_, ?_, ?_, ?_⟩; rotate_left 3; (conv => whnf))
    | (refine W.callA (new_does (rstS L ns 0) hb1) rfl rfl rfl rfl hΓ rfl ?_; (conv => whnf); refine ⟨rfl, rfl, ?_, ?_, ?_, ?_⟩; rotate_left 3; (conv => whnf))
    | (refine W.go TOK 91 hΓ 1000 rfl ?_; (conv => whnf); refine ⟨?_, ?_⟩)
    | (refine D.go TOK 91 hΓ 1000 rfl ?_; (conv => whnf); refine ⟨?_, ?_⟩)
    | (refine W.drawn rfl rfl ?_; refine D.run TOK 91 hΓ 1000 ?_; (conv => whnf); refine ⟨?_, ?_⟩)
  all_goals (repeat' apply And.intro)
  all_goals try (first
    | exact trivial
    | exact rfl
    | exact fun _ _ => A.sim.refl _
    | exact A.sim.refl _
    | omega
    | exact fun _ h => absurd h (Nat.not_lt_zero _)
    | exact fun i _ => isInt_byteAt _ i
    | (simp only [allP, List.nil_append, List.append_nil, List.cons_append, List.append_eq, and_true, true_and, inr_i64, inr_u8, inr_u64, min_i64, max_i64, min_u64, max_u64, min_u8, max_u8, A.purePL, A.pureP, A.sureP, A.surePL, Int.toNat_natCast, addI, cHi, cLo, hiN, loN, subO, addO, hasIdx, cond_true, cond_false]; done)
    | (simp only [allP, List.nil_append, List.append_nil, List.cons_append, List.append_eq, and_true, true_and, inr_i64, inr_u8, inr_u64, min_i64, max_i64, min_u64, max_u64, min_u8, max_u8, A.purePL, A.pureP, A.sureP, A.surePL, Int.toNat_natCast, addI, cHi, cLo, hiN, loN, subO, addO, hasIdx, cond_true, cond_false]; omega)
    | (simp only [allP, List.nil_append, List.append_nil, List.cons_append, List.append_eq, and_true, true_and, inr_i64, inr_u8, inr_u64, min_i64, max_i64, min_u64, max_u64, min_u8, max_u8, A.purePL, A.pureP, A.sureP, A.surePL, Int.toNat_natCast, addI, cHi, cLo, hiN, loN, subO, addO, hasIdx, cond_true, cond_false]; (repeat' apply And.intro) <;> first | exact trivial | rfl | omega | decide)
    )
  refine W.loopA (Nat) (fun i => i ≤ L.length) (fun i => L.length - i) (fun i => [(7, .ptr 501 []), (8, .int .i64 i)]) (fun i => [(501, some (rd (rstS L ns i) 0))]) [] (0) (Nat.zero_le _) ?_
  (conv => whnf); refine ⟨by ((conv => whnf); refine ⟨rfl, rfl, rfl, rfl, rfl, rfl, ?_, ?_⟩ <;> (repeat' apply And.intro) <;> first | exact trivial | exact rfl | exact fun _ _ => A.sim.refl _ | exact Nat.le_refl _ | exact fun _ h => absurd h (Nat.not_lt_zero _) | omega), ?_⟩
  rintro i hi ih
  by_cases hlt : i < L.length
  rotate_left
  · have hi : i = L.length := by omega
    subst hi
    rw [rstS_end]
    refine W.run TOK 91 hΓ 1000 ?_
    conv => whnf
    refine ⟨?_, ?_⟩
    repeat' first
      | assumption
      | exact Bool.noConfusion hb
      | exact absurd hb (by decide)
      | (refine W.retY TOK rfl rfl ⟨?_, ?_⟩)
      | (refine W.branch rfl (fun hb => ?_) (fun hb => ?_) <;> ((try simp only [decide_eq_true_eq, decide_eq_false_iff_not, Bool.not_eq_true', Bool.not_eq_false', Int.not_lt, Int.not_le, cond_true, cond_false, reduceCtorEq, Int.toNat_natCast, addI] at hb); (try replace hb := of_decide_eq_true hb); (try replace hb := of_decide_eq_false hb)))
      | (refine D.branch rfl (fun hb => ?_) (fun hb => ?_) <;> ((try simp only [decide_eq_true_eq, decide_eq_false_iff_not, Bool.not_eq_true', Bool.not_eq_false', Int.not_lt, Int.not_le, cond_true, cond_false, reduceCtorEq, Int.toNat_natCast, addI] at hb); (try replace hb := of_decide_eq_true hb); (try replace hb := of_decide_eq_false hb)))
      | (refine D.callA (left_does [] 0) rfl rfl rfl rfl hΓ rfl ?_; (conv => whnf); refine ⟨rfl, rfl, rfl, ?_, ?_, ?_, ?_⟩; rotate_left 3; (conv => whnf))
      | (refine W.callA (left_does [] 0) rfl rfl rfl rfl hΓ rfl ?_; (conv => whnf); refine ⟨rfl, rfl, ?_, ?_, ?_, ?_⟩; rotate_left 3; (conv => whnf))
      | (refine D.callA (raw_does [] 0 0 (by decide)) rfl rfl rfl rfl hΓ rfl ?_; (conv => whnf); refine ⟨rfl, rfl, rfl, ?_, ?_, ?_, ?_⟩; rotate_left 3; (conv => whnf))
      | (refine W.callA (raw_does [] 0 0 (by decide)) rfl rfl rfl rfl hΓ rfl ?_; (conv => whnf); refine ⟨rfl, rfl, ?_, ?_, ?_, ?_⟩; rotate_left 3; (conv => whnf))
      | (refine D.callA (err_does [] 0) rfl rfl rfl rfl hΓ rfl ?_; (conv => whnf); refine ⟨rfl, rfl, rfl, ?_, ?_, ?_, ?_⟩; rotate_left 3; (conv => whnf))
      | (refine W.callA (err_does [] 0) rfl rfl rfl rfl hΓ rfl ?_; (conv => whnf); refine ⟨rfl, rfl, ?_, ?_, ?_, ?_⟩; rotate_left 3; (conv => whnf))
      | (refine W.go TOK 91 hΓ 1000 rfl ?_; (conv => whnf); refine ⟨?_, ?_⟩)
      | (refine D.go TOK 91 hΓ 1000 rfl ?_; (conv => whnf); refine ⟨?_, ?_⟩)
      | (refine W.drawn rfl rfl ?_; refine D.run TOK 91 hΓ 1000 ?_; (conv => whnf); refine ⟨?_, ?_⟩)
    all_goals (repeat' apply And.intro)
    all_goals try (first
      | exact trivial
      | exact rfl
      | exact fun _ _ => A.sim.refl _
      | exact A.sim.refl _
      | omega
      | exact fun _ h => absurd h (Nat.not_lt_zero _)
      | exact fun i _ => isInt_byteAt _ i
      | (simp only [allP, List.nil_append, List.append_nil, List.cons_append, List.append_eq, and_true, true_and, inr_i64, inr_u8, inr_u64, min_i64, max_i64, min_u64, max_u64, min_u8, max_u8, A.purePL, A.pureP, A.sureP, A.surePL, Int.toNat_natCast, addI, cHi, cLo, hiN, loN, subO, addO, hasIdx, cond_true, cond_false]; done)
      | (simp only [allP, List.nil_append, List.append_nil, List.cons_append, List.append_eq, and_true, true_and, inr_i64, inr_u8, inr_u64, min_i64, max_i64, min_u64, max_u64, min_u8, max_u8, A.purePL, A.pureP, A.sureP, A.surePL, Int.toNat_natCast, addI, cHi, cLo, hiN, loN, subO, addO, hasIdx, cond_true, cond_false]; omega)
      | (simp only [allP, List.nil_append, List.append_nil, List.cons_append, List.append_eq, and_true, true_and, inr_i64, inr_u8, inr_u64, min_i64, max_i64, min_u64, max_u64, min_u8, max_u8, A.purePL, A.pureP, A.sureP, A.surePL, Int.toNat_natCast, addI, cHi, cLo, hiN, loN, subO, addO, hasIdx, cond_true, cond_false]; (repeat' apply And.intro) <;> first | exact trivial | rfl | omega | decide)
      )
  have c1 := getn_does (rstS L ns i) 0 (by have := hlr i hi; omega)
  rw [rstS_succ L ns i hlt, numR_app _ (mem_getD hns (by omega))] at c1
  have hq := hlr i hi
  rw [rstS_succ L ns i hlt, List.length_append] at hq
  have c2 := getl_does (lumpS (L.getD i default) ++ rstS L ns (i + 1)) 0 40 (by omega) (inr_i64.2 ⟨by decide, by decide⟩)
  rw [show lumpR ⟨lumpS (L.getD i default) ++ rstS L ns (i + 1), 0⟩ 40 = _ from lumpR_app _ _ 40 (hj i hlt) (by decide)] at c2
  rw [rstS_succ L ns i hlt]
  refine W.run TOK 91 hΓ 1000 ?_
  conv => whnf
  refine ⟨?_, ?_⟩
  repeat' first
    | assumption
    | exact Bool.noConfusion hb
    | exact absurd hb (by decide)
    | (refine W.toA (ih (i + 1) ?_ ?_) ?_; rotate_left 2; (conv => whnf); refine ⟨rfl, rfl, rfl, rfl, rfl, rfl, ?_, ?_⟩)
    | (refine W.retY TOK rfl rfl ⟨?_, ?_⟩)
    | (refine W.branch rfl (fun hb => ?_) (fun hb => ?_) <;> ((try simp only [decide_eq_true_eq, decide_eq_false_iff_not, Bool.not_eq_true', Bool.not_eq_false', Int.not_lt, Int.not_le, cond_true, cond_false, reduceCtorEq, Int.toNat_natCast, addI] at hb); (try replace hb := of_decide_eq_true hb); (try replace hb := of_decide_eq_false hb)))
    | (refine D.branch rfl (fun hb => ?_) (fun hb => ?_) <;> ((try simp only [decide_eq_true_eq, decide_eq_false_iff_not, Bool.not_eq_true', Bool.not_eq_false', Int.not_lt, Int.not_le, cond_true, cond_false, reduceCtorEq, Int.toNat_natCast, addI] at hb); (try replace hb := of_decide_eq_true hb); (try replace hb := of_decide_eq_false hb)))
    | (refine D.callA (c1) rfl rfl rfl rfl hΓ rfl ?_; (conv => whnf); refine ⟨rfl, rfl, rfl, ?_, ?_, ?_, ?_⟩; rotate_left 3; (conv => whnf))
    | (refine W.callA (c1) rfl rfl rfl rfl hΓ rfl ?_; (conv => whnf); refine ⟨rfl, rfl, ?_, ?_, ?_, ?_⟩; rotate_left 3; (conv => whnf))
    | (refine D.callA (c2) rfl rfl rfl rfl hΓ rfl ?_; (conv => whnf); refine ⟨rfl, rfl, rfl, ?_, ?_, ?_, ?_⟩; rotate_left 3; (conv => whnf))
    | (refine W.callA (c2) rfl rfl rfl rfl hΓ rfl ?_; (conv => whnf); refine ⟨rfl, rfl, ?_, ?_, ?_, ?_⟩; rotate_left 3; (conv => whnf))
    | (refine D.callA (err_does (rstS L ns (i + 1)) 0) rfl rfl rfl rfl hΓ rfl ?_; (conv => whnf); refine ⟨rfl, rfl, rfl, ?_, ?_, ?_, ?_⟩; rotate_left 3; (conv => whnf))
    | (refine W.callA (err_does (rstS L ns (i + 1)) 0) rfl rfl rfl rfl hΓ rfl ?_; (conv => whnf); refine ⟨rfl, rfl, ?_, ?_, ?_, ?_⟩; rotate_left 3; (conv => whnf))
    | (refine W.go TOK 91 hΓ 1000 rfl ?_; (conv => whnf); refine ⟨?_, ?_⟩)
    | (refine D.go TOK 91 hΓ 1000 rfl ?_; (conv => whnf); refine ⟨?_, ?_⟩)
    | (refine W.drawn rfl rfl ?_; refine D.run TOK 91 hΓ 1000 ?_; (conv => whnf); refine ⟨?_, ?_⟩)
  all_goals (repeat' apply And.intro)
  all_goals try (first
    | exact trivial
    | exact rfl
    | exact fun _ _ => A.sim.refl _
    | exact A.sim.refl _
    | omega
    | exact fun _ h => absurd h (Nat.not_lt_zero _)
    | exact fun i _ => isInt_byteAt _ i
    | (simp only [allP, List.nil_append, List.append_nil, List.cons_append, List.append_eq, and_true, true_and, inr_i64, inr_u8, inr_u64, min_i64, max_i64, min_u64, max_u64, min_u8, max_u8, A.purePL, A.pureP, A.sureP, A.surePL, Int.toNat_natCast, addI, cHi, cLo, hiN, loN, subO, addO, hasIdx, cond_true, cond_false]; done)
    | (simp only [allP, List.nil_append, List.append_nil, List.cons_append, List.append_eq, and_true, true_and, inr_i64, inr_u8, inr_u64, min_i64, max_i64, min_u64, max_u64, min_u8, max_u8, A.purePL, A.pureP, A.sureP, A.surePL, Int.toNat_natCast, addI, cHi, cLo, hiN, loN, subO, addO, hasIdx, cond_true, cond_false]; omega)
    | (simp only [allP, List.nil_append, List.append_nil, List.cons_append, List.append_eq, and_true, true_and, inr_i64, inr_u8, inr_u64, min_i64, max_i64, min_u64, max_u64, min_u8, max_u8, A.purePL, A.pureP, A.sureP, A.surePL, Int.toNat_natCast, addI, cHi, cLo, hiN, loN, subO, addO, hasIdx, cond_true, cond_false]; (repeat' apply And.intro) <;> first | exact trivial | rfl | omega | decide)
    )
theorem binBack_law (x0 x1 : A) (s0 : Shaped (.slice (.slice (.int .u8))) x0) (s1 : Shaped (.slice (.int .u64)) x1) : Does Try.prog 4 [x0, x1] [] [] Yes := by
  obtain ⟨a0, e0, h0⟩ := (Rep.slice Rep.bytes) x0 s0
  obtain ⟨a1, e1, h1⟩ := (Rep.slice (Rep.int .u64)) x1 s1
  exact Does.args (ys := [(sl (Sh.size (.slice (.int .u8))) bytesA) a0, (sl (Sh.size (.int .u64)) (A.int .u64)) a1]) ⟨e0, e1, trivial⟩ ⟨s0.pure, s1.pure, trivial⟩ (back_does a0 a1 h0.1 h1.1 h1.2)
end Go.Proofs.Ytflkdkclmmnocaa
