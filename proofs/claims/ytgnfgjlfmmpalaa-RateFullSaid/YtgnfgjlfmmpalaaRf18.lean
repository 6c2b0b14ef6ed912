/- Walks: the statements of layer 18. -/
import Derived.Test.YtgnfgjlfmmpalaaKn18
set_option linter.unusedSimpArgs false
set_option linter.unusedVariables false
namespace Go.Proofs.Ytgnfgjlfmmpalaa
open VX
set_option maxRecDepth 100000
set_option maxHeartbeats 4000000
theorem names_ne (k : UInt8) : nameS (k + 1) ≠ nameS k := by
  have h1 : (k + 1).toNat = (k.toNat + 1) % 256 := by simp
  have h2 := k.toNat_lt
  have key : ∀ a b : Fin 6, a ≠ b → namesS.getD a.val [] ≠ namesS.getD b.val [] := by decide
  exact key ⟨(k + 1).toNat % 6, Nat.mod_lt _ (by decide)⟩ ⟨k.toNat % 6, Nat.mod_lt _ (by decide)⟩ (fun e => by have := congrArg Fin.val e; simp only at this; rw [h1] at this; omega)
/-- After so many takings at 100. -/
def fulB (i : Nat) : Bk := ⟨4 - (min i 4 : Nat), 100, 100⟩
theorem fulB_ok (i : Nat) : BkOK (fulB i) := ⟨by simp only [fulB]; omega, by simp only [fulB]; omega, by simp only [fulB]; omega⟩
theorem fulB_tk (i : Nat) : tkS (atS (fulB i) 100) = (decide (i < 4), fulB (i + 1)) := by
  have hm : maxS (100 : Int) 100 = 100 := rfl
  have ha : atS (fulB i) 100 = fulB i := by
    unfold atS
    have : moreS (fulB i) 100 = 0 := rfl
    rw [this, if_neg (by rintro ⟨_, h⟩; exact absurd h (by decide))]
    rfl
  rw [ha]
  by_cases h : i < 4
  · have h0 : ¬ (fulB i).hv = 0 := by simp only [fulB]; omega
    unfold tkS
    rw [if_neg h0, decide_eq_true h]
    have e : fulB (i + 1) = ⟨(fulB i).hv - 1, 100, 100⟩ := by
      unfold fulB
      rw [Nat.min_eq_left (by omega), Nat.min_eq_left (by omega)]
      congr 1
      show (4 : Int) - ((i + 1 : Nat) : Int) = 4 - (i : Int) - 1
      omega
    rw [e]
    have e2 : (if (fulB i).hv = 4 then (fulB i).last else (fulB i).since) = 100 := by
      show (if (fulB i).hv = 4 then (100 : Int) else 100) = 100
      split <;> rfl
    rw [e2]
    rfl
  · have h0 : (fulB i).hv = 0 := by simp only [fulB]; omega
    rw [tk_none h0, decide_eq_false h]
    have e : fulB (i + 1) = fulB i := by
      unfold fulB
      rw [Nat.min_eq_right (by omega), Nat.min_eq_right (by omega)]
    rw [e]
theorem ful_wait {t : Nat} (ht : 0 < t) {w : Int} (hw : 0 ≤ w ∧ w ≤ 20) : (atS (fulB t) (100 + w)).hv = minS (4 - (min t 4 : Nat) + w / 3) 4 ∧ (atS (atS (fulB t) (100 + w)) 99).hv = minS (4 - (min t 4 : Nat) + w / 3) 4 ∧ BkOK (atS (fulB t) (100 + w)) := by
  have hm : maxS (100 : Int) (100 + w) = 100 + w := by unfold maxS; split <;> omega
  have hmo : moreS (fulB t) (100 + w) = w / 3 := by
    show (maxS 100 (100 + w) - 100) / 3 = w / 3
    rw [hm]
    congr 1
    omega
  have hA : atS (fulB t) (100 + w) = if (fulB t).hv < 4 ∧ 0 < w / 3 then ⟨minS ((fulB t).hv + w / 3) 4, 100 + w / 3 * 3, 100 + w⟩ else ⟨(fulB t).hv, 100, 100 + w⟩ := by
    unfold atS
    rw [hmo]
    show (if (fulB t).hv < 4 ∧ 0 < w / 3 then (⟨minS ((fulB t).hv + w / 3) 4, 100 + w / 3 * 3, maxS 100 (100 + w)⟩ : Bk) else (⟨(fulB t).hv, 100, maxS 100 (100 + w)⟩ : Bk)) = _
    rw [hm]
  have hok := (fulB_ok t).at (now := 100 + w) (by omega)
  have hv : (fulB t).hv = 4 - (min t 4 : Nat) := rfl
  have key : ∀ b : Bk, b.last = 100 + w → (b.hv = 4 ∨ (b.last - b.since) / 3 = 0) → (atS b 99).hv = b.hv := fun b hl h => by
    have hm2 : maxS b.last 99 = b.last := by unfold maxS; split <;> omega
    unfold atS
    rw [if_neg]
    rintro ⟨h1, h2⟩
    have h3 : moreS b 99 = (b.last - b.since) / 3 := by unfold moreS; rw [hm2]
    omega
  rw [hA] at hok ⊢
  by_cases hc : (fulB t).hv < 4 ∧ 0 < w / 3
  · rw [if_pos hc] at hok ⊢
    refine ⟨by rw [hv], ?_, hok⟩
    rw [key _ rfl (.inr (by simp only; omega))]
    simp only
    rw [hv]
  · rw [if_neg hc] at hok ⊢
    have hw3 : w / 3 = 0 := by
      have : (fulB t).hv < 4 := by rw [hv]; omega
      omega
    have e : minS (4 - (min t 4 : Nat) + w / 3) 4 = (fulB t).hv := by
      rw [hw3, hv]
      unfold minS
      split <;> omega
    refine ⟨e.symm, ?_, hok⟩
    rw [key _ rfl (.inr (by simp only; omega))]
    exact e.symm
theorem full_does (takes wait k : UInt8) : Does Try.prog 4 [VX.byte takes, VX.byte wait, VX.byte k] [] [] Yes := by
  have t8 := takes.toNat_lt
  have w8 := wait.toNat_lt
  have k8 := k.toNat_lt
  have hk1 : IntKind.u8.wrap ((k.toNat : Int) + 1) = ((k + 1).toNat : Int) := by
    have h1 : (k + 1).toNat = (k.toNat + 1) % 256 := by simp
    rw [h1]
    show ((k.toNat : Int) + 1) % 256 = _
    omega
  have hwt : IntKind.i64.wrap ((takes.toNat : Int) % 7) = ((takes.toNat % 7 : Nat) : Int) := (wrap_i64_in (by omega) (by omega)).trans (by omega)
  have hww : IntKind.i64.wrap ((wait.toNat : Int) % 20) = ((wait.toNat % 20 : Nat) : Int) := (wrap_i64_in (by omega) (by omega)).trans (by omega)
  have hne := names_ne k
  have cn := name_does k
  have cm := name_does (k + 1)
  unfold VX.byte at cm
  generalize ht : takes.toNat % 7 = t at hwt
  generalize hw : wait.toNat % 20 = w at hww
  have ht7 : t < 7 := by omega
  have hw20 : w < 20 := by omega
  generalize nameS k = s at cn hne
  generalize nameS (k + 1) = s2 at cm hne
  refine Does.intro (fn := Try.f4) Try.func4 rfl rfl fun Γ hΓ => ?_
  refine W.run TOK 70 hΓ 1000 ?_
  conv => whnf
  refine ⟨?_, ?_⟩
  repeat' first
    | assumption
    | exact Bool.noConfusion hb
    | exact absurd hb (by decide)
    | (exfalso; omega)
    | (refine W.retY TOK rfl rfl ⟨?_, ?_⟩)
    | (refine W.branch rfl (fun hb => ?_) (fun hb => ?_) <;> ((try simp only [decide_eq_true_eq, decide_eq_false_iff_not, Bool.not_eq_true', Bool.not_eq_false', Int.not_lt, Int.not_le, cond_true, cond_false, reduceCtorEq, Int.toNat_natCast, Int.reduceToNat, addI] at hb); (try replace hb := of_decide_eq_true hb); (try replace hb := of_decide_eq_false hb)))
    | (refine W.callA (known_does) rfl rfl rfl rfl hΓ rfl ?_; (conv => whnf); refine ⟨rfl, rfl, ?_, ?_, ?_, ?_⟩; iterate 3 (focus ((repeat' apply And.intro) <;> first | exact trivial | (intro i _; rw [Nat.zero_add]; exact A.sim.refl _) | with_reducible exact rfl | exact fun _ _ => A.sim.refl _ | exact A.sim.refl _ | exact rfl | exact Nat.le_refl _ | omega | exact fun i _ => shift_sim _ _ i | exact fun _ _ => trivial | exact fun _ h => absurd h (Nat.not_lt_zero _) | exact hk1)); (conv => whnf))
    | (refine W.callA (new_does) rfl rfl rfl rfl hΓ rfl ?_; (conv => whnf); refine ⟨rfl, rfl, ?_, ?_, ?_, ?_⟩; iterate 3 (focus ((repeat' apply And.intro) <;> first | exact trivial | (intro i _; rw [Nat.zero_add]; exact A.sim.refl _) | with_reducible exact rfl | exact fun _ _ => A.sim.refl _ | exact A.sim.refl _ | exact rfl | exact Nat.le_refl _ | omega | exact fun i _ => shift_sim _ _ i | exact fun _ _ => trivial | exact fun _ h => absurd h (Nat.not_lt_zero _) | exact hk1)); (conv => whnf))
    | (refine W.callA (cn) rfl rfl rfl rfl hΓ rfl ?_; (conv => whnf); refine ⟨rfl, rfl, ?_, ?_, ?_, ?_⟩; iterate 3 (focus ((repeat' apply And.intro) <;> first | exact trivial | (intro i _; rw [Nat.zero_add]; exact A.sim.refl _) | with_reducible exact rfl | exact fun _ _ => A.sim.refl _ | exact A.sim.refl _ | exact rfl | exact Nat.le_refl _ | omega | exact fun i _ => shift_sim _ _ i | exact fun _ _ => trivial | exact fun _ h => absurd h (Nat.not_lt_zero _) | exact hk1)); (conv => whnf))
    | (refine W.callA (cm) rfl rfl rfl rfl hΓ rfl ?_; (conv => whnf); refine ⟨rfl, rfl, ?_, ?_, ?_, ?_⟩; iterate 3 (focus ((repeat' apply And.intro) <;> first | exact trivial | (intro i _; rw [Nat.zero_add]; exact A.sim.refl _) | with_reducible exact rfl | exact fun _ _ => A.sim.refl _ | exact A.sim.refl _ | exact rfl | exact Nat.le_refl _ | omega | exact fun i _ => shift_sim _ _ i | exact fun _ _ => trivial | exact fun _ h => absurd h (Nat.not_lt_zero _) | exact hk1)); (conv => whnf))
    | (refine W.go TOK 70 hΓ 1000 rfl ?_; (conv => whnf); refine ⟨?_, ?_⟩)
  all_goals (repeat' apply And.intro)
  all_goals try (first
    | exact trivial
    | exact rfl
    | exact fun _ _ => A.sim.refl _
    | exact A.sim.refl _
    | exact Nat.le_refl _
    | omega
    | exact fun _ _ => trivial
    | exact fun i _ => shift_sim _ _ i
    | exact fun _ h => absurd h (Nat.not_lt_zero _)
    | exact fun i _ => isInt_byteAt _ i
    | (simp only [allP, List.nil_append, List.append_nil, List.cons_append, List.append_eq, and_true, true_and, inr_i64, inr_u8, inr_u64, min_i64, max_i64, min_u64, max_u64, min_u8, max_u8, A.purePL, A.pureP, A.sureP, A.surePL, Int.toNat_natCast, Int.reduceToNat, addI, cHi, cLo, hiN, loN, subO, addO, hasIdx, cond_true, cond_false]; first | done | omega | ((repeat' apply And.intro) <;> first | exact trivial | rfl | omega | decide))
    )
  have hw100 : 100 + IntKind.i64.wrap ((wait.toNat : Int) % 20) = 100 + (w : Int) := by rw [hww]
  have hT : 0 ≤ IntKind.i64.wrap ((takes.toNat : Int) % 7) ∧ IntKind.i64.wrap ((takes.toNat : Int) % 7) ≤ 6 := by rw [hwt]; omega
  have hW : 0 ≤ IntKind.i64.wrap ((wait.toNat : Int) % 20) ∧ IntKind.i64.wrap ((wait.toNat : Int) % 20) ≤ 19 := by rw [hww]; omega
  have b100 : (0 : Int) ≤ 100 + (w : Int) ∧ 100 + (w : Int) ≤ 1000000 := by omega
  by_cases ht0 : t = 0
  · have a1 : atS bk0 (100 + (w : Int)) = ⟨4, 0, 100 + w⟩ := by
      unfold atS maxS bk0
      rw [if_neg (by rintro ⟨h, _⟩; exact absurd h (by decide))]
      simp only
      rw [if_pos (by omega)]
    have a3 : atS ⟨4, 0, 100 + (w : Int)⟩ 99 = ⟨4, 0, 100 + w⟩ := by
      unfold atS maxS
      rw [if_neg (by rintro ⟨h, _⟩; exact absurd h (by show ¬ (4 : Int) < 4; decide))]
      simp only
      rw [if_neg (by omega)]
    have c1 := left_n0 s (100 + (w : Int)) b100
    rw [a1] at c1
    have hok1 : BkOK ⟨4, 0, 100 + (w : Int)⟩ := ⟨by simp only; omega, by simp only; omega, by simp only; omega⟩
    have c2 := left_n1 s2 0 s ⟨4, 0, 100 + (w : Int)⟩ hne (by decide)
    rw [show atS bk0 0 = ⟨4, 0, 0⟩ by decide] at c2
    have c3 := left_o2 s 99 s2 ⟨4, 0, 100 + (w : Int)⟩ ⟨4, 0, 0⟩ hok1 (by decide)
    rw [a3] at c3
    dsimp only at c1 c2 c3
    have hE : (4 : Int) = (if (4 : Int) < 4 - (if (4 : Int) < IntKind.i64.wrap ((takes.toNat : Int) % 7) then 4 else IntKind.i64.wrap ((takes.toNat : Int) % 7)) + IntKind.i64.wrap ((wait.toNat : Int) % 20) / 3 then 4 else 4 - (if (4 : Int) < IntKind.i64.wrap ((takes.toNat : Int) % 7) then 4 else IntKind.i64.wrap ((takes.toNat : Int) % 7)) + IntKind.i64.wrap ((wait.toNat : Int) % 20) / 3) := by
      rw [hwt, hww, ht0]
      split <;> split <;> omega
    refine W.enter ?_
    refine W.run TOK 70 hΓ 1000 ?_
    conv => whnf
    refine ⟨?_, ?_⟩
    repeat' first
      | assumption
      | exact Bool.noConfusion hb
      | exact absurd hb (by decide)
      | (exfalso; rw [hwt] at hb; omega)
      | exact absurd hE hb
      | (exfalso; omega)
      | (exfalso; simp at hb; done)
      | (refine W.retY TOK rfl rfl ⟨?_, ?_⟩)
      | (refine W.branch rfl (fun hb => ?_) (fun hb => ?_) <;> ((try simp only [decide_eq_true_eq, decide_eq_false_iff_not, Bool.not_eq_true', Bool.not_eq_false', Int.not_lt, Int.not_le, cond_true, cond_false, reduceCtorEq, Int.toNat_natCast, Int.reduceToNat, addI] at hb); (try replace hb := of_decide_eq_true hb); (try replace hb := of_decide_eq_false hb)))
      | (refine W.callA (c1) rfl rfl rfl rfl hΓ rfl ?_; (conv => whnf); refine ⟨rfl, rfl, ?_, ?_, ?_, ?_⟩; iterate 3 (focus ((repeat' apply And.intro) <;> first | exact trivial | (intro i _; rw [Nat.zero_add]; exact A.sim.refl _) | with_reducible exact rfl | exact fun _ _ => A.sim.refl _ | exact A.sim.refl _ | exact rfl | exact Nat.le_refl _ | omega | exact fun i _ => shift_sim _ _ i | exact fun _ _ => trivial | exact fun _ h => absurd h (Nat.not_lt_zero _) | exact hw100)); (conv => whnf))
      | (refine W.callA (c2) rfl rfl rfl rfl hΓ rfl ?_; (conv => whnf); refine ⟨rfl, rfl, ?_, ?_, ?_, ?_⟩; iterate 3 (focus ((repeat' apply And.intro) <;> first | exact trivial | (intro i _; rw [Nat.zero_add]; exact A.sim.refl _) | with_reducible exact rfl | exact fun _ _ => A.sim.refl _ | exact A.sim.refl _ | exact rfl | exact Nat.le_refl _ | omega | exact fun i _ => shift_sim _ _ i | exact fun _ _ => trivial | exact fun _ h => absurd h (Nat.not_lt_zero _) | exact hw100)); (conv => whnf))
      | (refine W.callA (c3) rfl rfl rfl rfl hΓ rfl ?_; (conv => whnf); refine ⟨rfl, rfl, ?_, ?_, ?_, ?_⟩; iterate 3 (focus ((repeat' apply And.intro) <;> first | exact trivial | (intro i _; rw [Nat.zero_add]; exact A.sim.refl _) | with_reducible exact rfl | exact fun _ _ => A.sim.refl _ | exact A.sim.refl _ | exact rfl | exact Nat.le_refl _ | omega | exact fun i _ => shift_sim _ _ i | exact fun _ _ => trivial | exact fun _ h => absurd h (Nat.not_lt_zero _) | exact hw100)); (conv => whnf))
      | (refine W.go TOK 70 hΓ 1000 rfl ?_; (conv => whnf); refine ⟨?_, ?_⟩)
    all_goals (repeat' apply And.intro)
    all_goals try (first
      | exact trivial
      | exact rfl
      | exact fun _ _ => A.sim.refl _
      | exact A.sim.refl _
      | exact Nat.le_refl _
      | omega
      | exact fun _ _ => trivial
      | exact fun i _ => shift_sim _ _ i
      | exact fun _ h => absurd h (Nat.not_lt_zero _)
      | exact fun i _ => isInt_byteAt _ i
      | (simp only [allP, List.nil_append, List.append_nil, List.cons_append, List.append_eq, and_true, true_and, inr_i64, inr_u8, inr_u64, min_i64, max_i64, min_u64, max_u64, min_u8, max_u8, A.purePL, A.pureP, A.sureP, A.surePL, Int.toNat_natCast, Int.reduceToNat, addI, cHi, cLo, hiN, loN, subO, addO, hasIdx, cond_true, cond_false]; first | done | omega | ((repeat' apply And.intro) <;> first | exact trivial | rfl | omega | decide))
      | (rw [hwt]; omega)
      | (rw [hww]; omega)
      | exact decide_eq_true hE
      | (show (-9223372036854775808 : Int) ≤ (4 : Int) - (if (4 : Int) < IntKind.i64.wrap ((takes.toNat : Int) % 7) then 4 else IntKind.i64.wrap ((takes.toNat : Int) % 7)) + IntKind.i64.wrap ((wait.toNat : Int) % 20) / 3; split <;> omega)
      | (show (4 : Int) - (if (4 : Int) < IntKind.i64.wrap ((takes.toNat : Int) % 7) then 4 else IntKind.i64.wrap ((takes.toNat : Int) % 7)) + IntKind.i64.wrap ((wait.toNat : Int) % 20) / 3 ≤ (9223372036854775807 : Int); split <;> omega)
      | (show (-9223372036854775808 : Int) ≤ (4 : Int) - (if (4 : Int) < IntKind.i64.wrap ((takes.toNat : Int) % 7) then 4 else IntKind.i64.wrap ((takes.toNat : Int) % 7)) + IntKind.i64.wrap ((wait.toNat : Int) % 20) / 3; omega)
      | (show (4 : Int) - (if (4 : Int) < IntKind.i64.wrap ((takes.toNat : Int) % 7) then 4 else IntKind.i64.wrap ((takes.toNat : Int) % 7)) + IntKind.i64.wrap ((wait.toNat : Int) % 20) / 3 ≤ (9223372036854775807 : Int); omega)
      | (show (-9223372036854775808 : Int) ≤ (4 : Int) - (if (4 : Int) < IntKind.i64.wrap ((takes.toNat : Int) % 7) then 4 else IntKind.i64.wrap ((takes.toNat : Int) % 7)); split <;> omega)
      | (show (4 : Int) - (if (4 : Int) < IntKind.i64.wrap ((takes.toNat : Int) % 7) then 4 else IntKind.i64.wrap ((takes.toNat : Int) % 7)) ≤ (9223372036854775807 : Int); split <;> omega)
      | (show (-9223372036854775808 : Int) ≤ (4 : Int) - (if (4 : Int) < IntKind.i64.wrap ((takes.toNat : Int) % 7) then 4 else IntKind.i64.wrap ((takes.toNat : Int) % 7)); omega)
      | (show (4 : Int) - (if (4 : Int) < IntKind.i64.wrap ((takes.toNat : Int) % 7) then 4 else IntKind.i64.wrap ((takes.toNat : Int) % 7)) ≤ (9223372036854775807 : Int); omega)
      | (show (-9223372036854775808 : Int) ≤ (100 : Int) + IntKind.i64.wrap ((wait.toNat : Int) % 20); split <;> omega)
      | (show (100 : Int) + IntKind.i64.wrap ((wait.toNat : Int) % 20) ≤ (9223372036854775807 : Int); split <;> omega)
      | (show (-9223372036854775808 : Int) ≤ (100 : Int) + IntKind.i64.wrap ((wait.toNat : Int) % 20); omega)
      | (show (100 : Int) + IntKind.i64.wrap ((wait.toNat : Int) % 20) ≤ (9223372036854775807 : Int); omega)
      | (show (-9223372036854775808 : Int) ≤ IntKind.i64.wrap ((wait.toNat : Int) % 20) / 3; split <;> omega)
      | (show IntKind.i64.wrap ((wait.toNat : Int) % 20) / 3 ≤ (9223372036854775807 : Int); split <;> omega)
      | (show (-9223372036854775808 : Int) ≤ IntKind.i64.wrap ((wait.toNat : Int) % 20) / 3; omega)
      | (show IntKind.i64.wrap ((wait.toNat : Int) % 20) / 3 ≤ (9223372036854775807 : Int); omega)
      )
  · have c0 := take_n0 s 100 (by decide)
    rw [show tkS (atS bk0 100) = (true, fulB 1) by decide] at c0
    have ht1 : 0 < t := by omega
    refine W.enter ?_
    refine W.run TOK 70 hΓ 1000 ?_
    conv => whnf
    refine ⟨?_, ?_⟩
    repeat' first
      | assumption
      | exact Bool.noConfusion hb
      | exact absurd hb (by decide)
      | (exfalso; rw [hwt] at hb; omega)
      | (exfalso; omega)
      | (exfalso; simp at hb; done)
      | (refine W.retY TOK rfl rfl ⟨?_, ?_⟩)
      | (refine W.branch rfl (fun hb => ?_) (fun hb => ?_) <;> ((try simp only [decide_eq_true_eq, decide_eq_false_iff_not, Bool.not_eq_true', Bool.not_eq_false', Int.not_lt, Int.not_le, cond_true, cond_false, reduceCtorEq, Int.toNat_natCast, Int.reduceToNat, addI] at hb); (try replace hb := of_decide_eq_true hb); (try replace hb := of_decide_eq_false hb)))
      | (refine W.callA (c0) rfl rfl rfl rfl hΓ rfl ?_; (conv => whnf); refine ⟨rfl, rfl, ?_, ?_, ?_, ?_⟩; iterate 3 (focus ((repeat' apply And.intro) <;> first | exact trivial | (intro i _; rw [Nat.zero_add]; exact A.sim.refl _) | with_reducible exact rfl | exact fun _ _ => A.sim.refl _ | exact A.sim.refl _ | exact rfl | exact Nat.le_refl _ | omega | exact fun i _ => shift_sim _ _ i | exact fun _ _ => trivial | exact fun _ h => absurd h (Nat.not_lt_zero _))); (conv => whnf))
      | (refine W.go TOK 70 hΓ 1000 rfl ?_; (conv => whnf); refine ⟨?_, ?_⟩)
    all_goals (repeat' apply And.intro)
    all_goals try (first
      | exact trivial
      | exact rfl
      | exact fun _ _ => A.sim.refl _
      | exact A.sim.refl _
      | exact Nat.le_refl _
      | omega
      | exact fun _ _ => trivial
      | exact fun i _ => shift_sim _ _ i
      | exact fun _ h => absurd h (Nat.not_lt_zero _)
      | exact fun i _ => isInt_byteAt _ i
      | (simp only [allP, List.nil_append, List.append_nil, List.cons_append, List.append_eq, and_true, true_and, inr_i64, inr_u8, inr_u64, min_i64, max_i64, min_u64, max_u64, min_u8, max_u8, A.purePL, A.pureP, A.sureP, A.surePL, Int.toNat_natCast, Int.reduceToNat, addI, cHi, cLo, hiN, loN, subO, addO, hasIdx, cond_true, cond_false]; first | done | omega | ((repeat' apply And.intro) <;> first | exact trivial | rfl | omega | decide))
      )
    refine W.loopAR (Nat) (fun i => 1 ≤ i ∧ i ≤ t) (fun i => t - i) (fun i => [(7, .ptr 700 []), (11, .int .i64 (i : Nat))]) (fun i => [(700, some (.var (.agg [.map 701]))), (701, some (.pmap [s] [.ptr 702 []])), (702, some (.var (bkA (fulB i))))]) [] (1) (⟨Nat.le_refl _, ht1⟩) ?_
    (conv => whnf); refine ⟨?_, ?_⟩; focus ((conv => whnf); refine ⟨rfl, rfl, rfl, rfl, rfl, rfl, ?_, ?_⟩; iterate 2 (focus ((repeat' apply And.intro) <;> first | exact trivial | (intro i _; rw [Nat.zero_add]; exact A.sim.refl _) | with_reducible exact rfl | exact fun _ _ => A.sim.refl _ | exact A.sim.refl _ | exact rfl | exact Nat.le_refl _ | omega | exact fun i _ => shift_sim _ _ i | exact fun _ _ => trivial | exact fun _ h => absurd h (Nat.not_lt_zero _))))
    rintro i ⟨hi1, hit⟩ ih
    by_cases hil : i < t
    · have ct := take_o1 s 100 (fulB i) (fulB_ok i) (by decide)
      rw [fulB_tk] at ct
      have ih2 := ih (i + 1) ⟨by omega, hil⟩ (by omega)
      generalize fulB (i + 1) = b2 at ct ih2
      generalize fulB i = b1 at ct ⊢
      by_cases h4 : i < 4
      · rw [decide_eq_true h4] at ct
        repeat' first
          | assumption
          | exact Bool.noConfusion hb
          | exact absurd hb (by decide)
          | (exfalso; rw [hwt] at hb; omega)
          | (exfalso; omega)
          | (exfalso; simp at hb; done)
          | (exfalso; simp at hb; omega)
          | (refine W.toA (ih2) ?_; rotate_left 0; (conv => whnf); refine ⟨rfl, rfl, rfl, rfl, rfl, rfl, ?_, ?_⟩; iterate 2 (focus ((repeat' apply And.intro) <;> first | exact trivial | (intro i _; rw [Nat.zero_add]; exact A.sim.refl _) | with_reducible exact rfl | exact fun _ _ => A.sim.refl _ | exact A.sim.refl _ | exact rfl | exact Nat.le_refl _ | omega | exact fun i _ => shift_sim _ _ i | exact fun _ _ => trivial | exact fun _ h => absurd h (Nat.not_lt_zero _))))
          | (refine W.retY TOK rfl rfl ⟨?_, ?_⟩)
          | (refine W.branch rfl (fun hb => ?_) (fun hb => ?_) <;> ((try simp only [decide_eq_true_eq, decide_eq_false_iff_not, Bool.not_eq_true', Bool.not_eq_false', Int.not_lt, Int.not_le, cond_true, cond_false, reduceCtorEq, Int.toNat_natCast, Int.reduceToNat, addI] at hb); (try replace hb := of_decide_eq_true hb); (try replace hb := of_decide_eq_false hb)))
          | (refine W.callA (ct) rfl rfl rfl rfl hΓ rfl ?_; (conv => whnf); refine ⟨rfl, rfl, ?_, ?_, ?_, ?_⟩; iterate 3 (focus ((repeat' apply And.intro) <;> first | exact trivial | (intro i _; rw [Nat.zero_add]; exact A.sim.refl _) | with_reducible exact rfl | exact fun _ _ => A.sim.refl _ | exact A.sim.refl _ | exact rfl | exact Nat.le_refl _ | omega | exact fun i _ => shift_sim _ _ i | exact fun _ _ => trivial | exact fun _ h => absurd h (Nat.not_lt_zero _))); (conv => whnf))
          | (refine W.go TOK 70 hΓ 1000 rfl ?_; (conv => whnf); refine ⟨?_, ?_⟩)
        all_goals (repeat' apply And.intro)
        all_goals try (first
          | exact trivial
          | exact rfl
          | exact fun _ _ => A.sim.refl _
          | exact A.sim.refl _
          | exact Nat.le_refl _
          | omega
          | exact fun _ _ => trivial
          | exact fun i _ => shift_sim _ _ i
          | exact fun _ h => absurd h (Nat.not_lt_zero _)
          | exact fun i _ => isInt_byteAt _ i
          | (simp only [allP, List.nil_append, List.append_nil, List.cons_append, List.append_eq, and_true, true_and, inr_i64, inr_u8, inr_u64, min_i64, max_i64, min_u64, max_u64, min_u8, max_u8, A.purePL, A.pureP, A.sureP, A.surePL, Int.toNat_natCast, Int.reduceToNat, addI, cHi, cLo, hiN, loN, subO, addO, hasIdx, cond_true, cond_false]; first | done | omega | ((repeat' apply And.intro) <;> first | exact trivial | rfl | omega | decide))
          )
      · rw [decide_eq_false h4] at ct
        repeat' first
          | assumption
          | exact Bool.noConfusion hb
          | exact absurd hb (by decide)
          | (exfalso; rw [hwt] at hb; omega)
          | (exfalso; omega)
          | (exfalso; simp at hb; done)
          | (exfalso; simp at hb; omega)
          | (refine W.toA (ih2) ?_; rotate_left 0; (conv => whnf); refine ⟨rfl, rfl, rfl, rfl, rfl, rfl, ?_, ?_⟩; iterate 2 (focus ((repeat' apply And.intro) <;> first | exact trivial | (intro i _; rw [Nat.zero_add]; exact A.sim.refl _) | with_reducible exact rfl | exact fun _ _ => A.sim.refl _ | exact A.sim.refl _ | exact rfl | exact Nat.le_refl _ | omega | exact fun i _ => shift_sim _ _ i | exact fun _ _ => trivial | exact fun _ h => absurd h (Nat.not_lt_zero _))))
          | (refine W.retY TOK rfl rfl ⟨?_, ?_⟩)
          | (refine W.branch rfl (fun hb => ?_) (fun hb => ?_) <;> ((try simp only [decide_eq_true_eq, decide_eq_false_iff_not, Bool.not_eq_true', Bool.not_eq_false', Int.not_lt, Int.not_le, cond_true, cond_false, reduceCtorEq, Int.toNat_natCast, Int.reduceToNat, addI] at hb); (try replace hb := of_decide_eq_true hb); (try replace hb := of_decide_eq_false hb)))
          | (refine W.callA (ct) rfl rfl rfl rfl hΓ rfl ?_; (conv => whnf); refine ⟨rfl, rfl, ?_, ?_, ?_, ?_⟩; iterate 3 (focus ((repeat' apply And.intro) <;> first | exact trivial | (intro i _; rw [Nat.zero_add]; exact A.sim.refl _) | with_reducible exact rfl | exact fun _ _ => A.sim.refl _ | exact A.sim.refl _ | exact rfl | exact Nat.le_refl _ | omega | exact fun i _ => shift_sim _ _ i | exact fun _ _ => trivial | exact fun _ h => absurd h (Nat.not_lt_zero _))); (conv => whnf))
          | (refine W.go TOK 70 hΓ 1000 rfl ?_; (conv => whnf); refine ⟨?_, ?_⟩)
        all_goals (repeat' apply And.intro)
        all_goals try (first
          | exact trivial
          | exact rfl
          | exact fun _ _ => A.sim.refl _
          | exact A.sim.refl _
          | exact Nat.le_refl _
          | omega
          | exact fun _ _ => trivial
          | exact fun i _ => shift_sim _ _ i
          | exact fun _ h => absurd h (Nat.not_lt_zero _)
          | exact fun i _ => isInt_byteAt _ i
          | (simp only [allP, List.nil_append, List.append_nil, List.cons_append, List.append_eq, and_true, true_and, inr_i64, inr_u8, inr_u64, min_i64, max_i64, min_u64, max_u64, min_u8, max_u8, A.purePL, A.pureP, A.sureP, A.surePL, Int.toNat_natCast, Int.reduceToNat, addI, cHi, cLo, hiN, loN, subO, addO, hasIdx, cond_true, cond_false]; first | done | omega | ((repeat' apply And.intro) <;> first | exact trivial | rfl | omega | decide))
          )
    have hit2 : i = t := by omega
    clear ih
    subst hit2
    obtain ⟨f1, f2, f3⟩ := ful_wait (t := i) ht1 (w := (w : Int)) (by omega)
    have c1 := left_o1 s (100 + (w : Int)) (fulB i) (fulB_ok i) b100
    have c2 := left_n1 s2 0 s (atS (fulB i) (100 + (w : Int))) hne (by decide)
    rw [show atS bk0 0 = ⟨4, 0, 0⟩ by decide] at c2
    have c3 := left_o2 s 99 s2 (atS (fulB i) (100 + (w : Int))) ⟨4, 0, 0⟩ f3 (by decide)
    rw [f1] at c1
    rw [f2] at c3
    have hE : minS (4 - (min i 4 : Nat) + (w : Int) / 3) 4 = (if (4 : Int) < 4 - (if (4 : Int) < IntKind.i64.wrap ((takes.toNat : Int) % 7) then 4 else IntKind.i64.wrap ((takes.toNat : Int) % 7)) + IntKind.i64.wrap ((wait.toNat : Int) % 20) / 3 then 4 else 4 - (if (4 : Int) < IntKind.i64.wrap ((takes.toNat : Int) % 7) then 4 else IntKind.i64.wrap ((takes.toNat : Int) % 7)) + IntKind.i64.wrap ((wait.toNat : Int) % 20) / 3) := by
      rw [hwt, hww]
      unfold minS
      by_cases h4 : (4 : Int) < (i : Int)
      · rw [if_pos h4, Nat.min_eq_right (by omega)]; rfl
      · rw [if_neg h4, Nat.min_eq_left (by omega)]
    generalize minS (4 - (min i 4 : Nat) + (w : Int) / 3) 4 = e at c1 c3 hE
    generalize atS (atS (fulB i) (100 + (w : Int))) 99 = b3 at c3
    generalize atS (fulB i) (100 + (w : Int)) = b2 at c1 c2 c3
    generalize fulB i = b1 at c1 ⊢
    dsimp only at c2
    repeat' first
      | assumption
      | exact Bool.noConfusion hb
      | exact absurd hb (by decide)
      | (exfalso; rw [hwt] at hb; omega)
      | exact absurd hE hb
      | (exfalso; omega)
      | (exfalso; simp at hb; done)
      | (refine W.retY TOK rfl rfl ⟨?_, ?_⟩)
      | (refine W.branch rfl (fun hb => ?_) (fun hb => ?_) <;> ((try simp only [decide_eq_true_eq, decide_eq_false_iff_not, Bool.not_eq_true', Bool.not_eq_false', Int.not_lt, Int.not_le, cond_true, cond_false, reduceCtorEq, Int.toNat_natCast, Int.reduceToNat, addI] at hb); (try replace hb := of_decide_eq_true hb); (try replace hb := of_decide_eq_false hb)))
      | (refine W.callA (c1) rfl rfl rfl rfl hΓ rfl ?_; (conv => whnf); refine ⟨rfl, rfl, ?_, ?_, ?_, ?_⟩; iterate 3 (focus ((repeat' apply And.intro) <;> first | exact trivial | (intro i _; rw [Nat.zero_add]; exact A.sim.refl _) | with_reducible exact rfl | exact fun _ _ => A.sim.refl _ | exact A.sim.refl _ | exact rfl | exact Nat.le_refl _ | omega | exact fun i _ => shift_sim _ _ i | exact fun _ _ => trivial | exact fun _ h => absurd h (Nat.not_lt_zero _) | exact hw100)); (conv => whnf))
      | (refine W.callA (c2) rfl rfl rfl rfl hΓ rfl ?_; (conv => whnf); refine ⟨rfl, rfl, ?_, ?_, ?_, ?_⟩; iterate 3 (focus ((repeat' apply And.intro) <;> first | exact trivial | (intro i _; rw [Nat.zero_add]; exact A.sim.refl _) | with_reducible exact rfl | exact fun _ _ => A.sim.refl _ | exact A.sim.refl _ | exact rfl | exact Nat.le_refl _ | omega | exact fun i _ => shift_sim _ _ i | exact fun _ _ => trivial | exact fun _ h => absurd h (Nat.not_lt_zero _) | exact hw100)); (conv => whnf))
      | (refine W.callA (c3) rfl rfl rfl rfl hΓ rfl ?_; (conv => whnf); refine ⟨rfl, rfl, ?_, ?_, ?_, ?_⟩; iterate 3 (focus ((repeat' apply And.intro) <;> first | exact trivial | (intro i _; rw [Nat.zero_add]; exact A.sim.refl _) | with_reducible exact rfl | exact fun _ _ => A.sim.refl _ | exact A.sim.refl _ | exact rfl | exact Nat.le_refl _ | omega | exact fun i _ => shift_sim _ _ i | exact fun _ _ => trivial | exact fun _ h => absurd h (Nat.not_lt_zero _) | exact hw100)); (conv => whnf))
      | (refine W.go TOK 70 hΓ 1000 rfl ?_; (conv => whnf); refine ⟨?_, ?_⟩)
    all_goals (repeat' apply And.intro)
    all_goals try (first
      | exact trivial
      | exact rfl
      | exact fun _ _ => A.sim.refl _
      | exact A.sim.refl _
      | exact Nat.le_refl _
      | omega
      | exact fun _ _ => trivial
      | exact fun i _ => shift_sim _ _ i
      | exact fun _ h => absurd h (Nat.not_lt_zero _)
      | exact fun i _ => isInt_byteAt _ i
      | (simp only [allP, List.nil_append, List.append_nil, List.cons_append, List.append_eq, and_true, true_and, inr_i64, inr_u8, inr_u64, min_i64, max_i64, min_u64, max_u64, min_u8, max_u8, A.purePL, A.pureP, A.sureP, A.surePL, Int.toNat_natCast, Int.reduceToNat, addI, cHi, cLo, hiN, loN, subO, addO, hasIdx, cond_true, cond_false]; first | done | omega | ((repeat' apply And.intro) <;> first | exact trivial | rfl | omega | decide))
      | (rw [hwt]; omega)
      | (rw [hww]; omega)
      | exact decide_eq_true hE
      | (show (-9223372036854775808 : Int) ≤ (4 : Int) - (if (4 : Int) < IntKind.i64.wrap ((takes.toNat : Int) % 7) then 4 else IntKind.i64.wrap ((takes.toNat : Int) % 7)) + IntKind.i64.wrap ((wait.toNat : Int) % 20) / 3; split <;> omega)
      | (show (4 : Int) - (if (4 : Int) < IntKind.i64.wrap ((takes.toNat : Int) % 7) then 4 else IntKind.i64.wrap ((takes.toNat : Int) % 7)) + IntKind.i64.wrap ((wait.toNat : Int) % 20) / 3 ≤ (9223372036854775807 : Int); split <;> omega)
      | (show (-9223372036854775808 : Int) ≤ (4 : Int) - (if (4 : Int) < IntKind.i64.wrap ((takes.toNat : Int) % 7) then 4 else IntKind.i64.wrap ((takes.toNat : Int) % 7)) + IntKind.i64.wrap ((wait.toNat : Int) % 20) / 3; omega)
      | (show (4 : Int) - (if (4 : Int) < IntKind.i64.wrap ((takes.toNat : Int) % 7) then 4 else IntKind.i64.wrap ((takes.toNat : Int) % 7)) + IntKind.i64.wrap ((wait.toNat : Int) % 20) / 3 ≤ (9223372036854775807 : Int); omega)
      | (show (-9223372036854775808 : Int) ≤ (4 : Int) - (if (4 : Int) < IntKind.i64.wrap ((takes.toNat : Int) % 7) then 4 else IntKind.i64.wrap ((takes.toNat : Int) % 7)); split <;> omega)
      | (show (4 : Int) - (if (4 : Int) < IntKind.i64.wrap ((takes.toNat : Int) % 7) then 4 else IntKind.i64.wrap ((takes.toNat : Int) % 7)) ≤ (9223372036854775807 : Int); split <;> omega)
      | (show (-9223372036854775808 : Int) ≤ (4 : Int) - (if (4 : Int) < IntKind.i64.wrap ((takes.toNat : Int) % 7) then 4 else IntKind.i64.wrap ((takes.toNat : Int) % 7)); omega)
      | (show (4 : Int) - (if (4 : Int) < IntKind.i64.wrap ((takes.toNat : Int) % 7) then 4 else IntKind.i64.wrap ((takes.toNat : Int) % 7)) ≤ (9223372036854775807 : Int); omega)
      | (show (-9223372036854775808 : Int) ≤ (100 : Int) + IntKind.i64.wrap ((wait.toNat : Int) % 20); split <;> omega)
      | (show (100 : Int) + IntKind.i64.wrap ((wait.toNat : Int) % 20) ≤ (9223372036854775807 : Int); split <;> omega)
      | (show (-9223372036854775808 : Int) ≤ (100 : Int) + IntKind.i64.wrap ((wait.toNat : Int) % 20); omega)
      | (show (100 : Int) + IntKind.i64.wrap ((wait.toNat : Int) % 20) ≤ (9223372036854775807 : Int); omega)
      | (show (-9223372036854775808 : Int) ≤ IntKind.i64.wrap ((wait.toNat : Int) % 20) / 3; split <;> omega)
      | (show IntKind.i64.wrap ((wait.toNat : Int) % 20) / 3 ≤ (9223372036854775807 : Int); split <;> omega)
      | (show (-9223372036854775808 : Int) ≤ IntKind.i64.wrap ((wait.toNat : Int) % 20) / 3; omega)
      | (show IntKind.i64.wrap ((wait.toNat : Int) % 20) / 3 ≤ (9223372036854775807 : Int); omega)
      )

theorem rateFull_law (x0 x1 x2 : A) (s0 : Shaped (.int .u8) x0) (s1 : Shaped (.int .u8) x1) (s2 : Shaped (.int .u8) x2) : Does Try.prog 4 [x0, x1, x2] [] [] Yes := by
  obtain ⟨a0, e0, h0⟩ := Rep.byte x0 s0
  obtain ⟨a1, e1, h1⟩ := Rep.byte x1 s1
  obtain ⟨a2, e2, h2⟩ := Rep.byte x2 s2
  exact Does.args (ys := [VX.byte a0, VX.byte a1, VX.byte a2]) ⟨e0, e1, e2, trivial⟩ ⟨s0.pure, s1.pure, s2.pure, trivial⟩ (full_does a0 a1 a2)
end Go.Proofs.Ytgnfgjlfmmpalaa
