/- Walks: the statements of layer 13. -/
import Derived.Test.YtinlkodebiifjaaFr13K
import Derived.Test.YtinlkodebiifjaaFrSpec2
import Derived.Test.YtinlkodebiifjaaAccL
set_option linter.unusedSimpArgs false
set_option linter.unusedVariables false
namespace Go.Proofs.Ytinlkodebiifjaa
open VX
set_option maxRecDepth 100000
set_option maxHeartbeats 4000000
def kdS (ks : List UInt8) (j : Nat) : UInt8 := byteI (((ks.getD j 0).toNat : Int) % 255 + 1)
def fr1 (L : List (List UInt8)) (ks : List UInt8) (j : Nat) : List UInt8 := frameB (kdS ks j) j (L.getD j default)
theorem kdS_nat (ks : List UInt8) (j : Nat) : ((kdS ks j).toNat : Int) = ((ks.getD j 0).toNat : Int) % 255 + 1 := by
  unfold kdS
  rw [byteI_nat]
  omega
theorem chain_does (L : List (List UInt8)) (ks : List UInt8) (hL0 : L.length ≤ 9223372036854775807) (hk0 : ks.length ≤ 9223372036854775807) : Does Try.prog 6 [sl 1 bytesA L, bytesA ks] [] [] Yes := by
  refine Does.intro (fn := Try.f6) Try.func6 rfl rfl fun Γ hΓ => ?_
  refine W.run TOK 135 hΓ 1000 ?_
  conv => whnf
  refine ⟨?_, ?_⟩
  repeat' first
    | assumption
    | exact Bool.noConfusion hb
    | exact absurd hb (by decide)
    | (exfalso; omega)
    | (refine W.retY TOK rfl rfl ⟨?_, ?_⟩)
    | (refine W.branch rfl (fun hb => ?_) (fun hb => ?_) <;> ((try simp only [decide_eq_true_eq, decide_eq_false_iff_not, Bool.not_eq_true', Bool.not_eq_false', Int.not_lt, Int.not_le, cond_true, cond_false, reduceCtorEq, Int.toNat_natCast, Int.reduceToNat, addI] at hb); (try replace hb := of_decide_eq_true hb); (try replace hb := of_decide_eq_false hb)))
    | (refine D.branch rfl (fun hb => ?_) (fun hb => ?_) <;> ((try simp only [decide_eq_true_eq, decide_eq_false_iff_not, Bool.not_eq_true', Bool.not_eq_false', Int.not_lt, Int.not_le, cond_true, cond_false, reduceCtorEq, Int.toNat_natCast, Int.reduceToNat, addI] at hb); (try replace hb := of_decide_eq_true hb); (try replace hb := of_decide_eq_false hb)))
    | (refine D.callA (known_does) rfl rfl rfl rfl hΓ rfl ?_; (conv => whnf); refine ⟨rfl, rfl, rfl, ?_, ?_, ?_, ?_⟩; (focus ((repeat' apply And.intro) <;> first | exact trivial | (intro i _; rw [Nat.zero_add]; exact A.sim.refl _) | with_reducible exact rfl | exact fun _ _ => A.sim.refl _ | exact A.sim.refl _ | exact rfl | exact Nat.le_refl _ | omega | exact fun i _ => shift_sim _ _ i | exact fun _ _ => trivial | exact fun _ h => absurd h (Nat.not_lt_zero _))); (focus ((repeat' apply And.intro) <;> first | exact trivial | (intro i _; rw [Nat.zero_add]; exact A.sim.refl _) | with_reducible exact rfl | exact fun _ _ => A.sim.refl _ | exact A.sim.refl _ | exact rfl | exact Nat.le_refl _ | omega | exact fun i _ => shift_sim _ _ i | exact fun _ _ => trivial | exact fun _ h => absurd h (Nat.not_lt_zero _))); (focus ((repeat' apply And.intro) <;> first | exact trivial | (intro i _; rw [Nat.zero_add]; exact A.sim.refl _) | with_reducible exact rfl | exact fun _ _ => A.sim.refl _ | exact A.sim.refl _ | exact rfl | exact Nat.le_refl _ | omega | exact fun i _ => shift_sim _ _ i | exact fun _ _ => trivial | exact fun _ h => absurd h (Nat.not_lt_zero _))); (conv => whnf))
    | (refine W.callA (known_does) rfl rfl rfl rfl hΓ rfl ?_; (conv => whnf); refine ⟨rfl, rfl, ?_, ?_, ?_, ?_⟩; (focus ((repeat' apply And.intro) <;> first | exact trivial | (intro i _; rw [Nat.zero_add]; exact A.sim.refl _) | with_reducible exact rfl | exact fun _ _ => A.sim.refl _ | exact A.sim.refl _ | exact rfl | exact Nat.le_refl _ | omega | exact fun i _ => shift_sim _ _ i | exact fun _ _ => trivial | exact fun _ h => absurd h (Nat.not_lt_zero _))); (focus ((repeat' apply And.intro) <;> first | exact trivial | (intro i _; rw [Nat.zero_add]; exact A.sim.refl _) | with_reducible exact rfl | exact fun _ _ => A.sim.refl _ | exact A.sim.refl _ | exact rfl | exact Nat.le_refl _ | omega | exact fun i _ => shift_sim _ _ i | exact fun _ _ => trivial | exact fun _ h => absurd h (Nat.not_lt_zero _))); (focus ((repeat' apply And.intro) <;> first | exact trivial | (intro i _; rw [Nat.zero_add]; exact A.sim.refl _) | with_reducible exact rfl | exact fun _ _ => A.sim.refl _ | exact A.sim.refl _ | exact rfl | exact Nat.le_refl _ | omega | exact fun i _ => shift_sim _ _ i | exact fun _ _ => trivial | exact fun _ h => absurd h (Nat.not_lt_zero _))); (conv => whnf))
    | (refine W.go TOK 135 hΓ 1000 rfl ?_; (conv => whnf); refine ⟨?_, ?_⟩)
    | (refine D.go TOK 135 hΓ 1000 rfl ?_; (conv => whnf); refine ⟨?_, ?_⟩)
    | (refine W.drawn rfl rfl ?_; refine D.run TOK 135 hΓ 1000 ?_; (conv => whnf); refine ⟨?_, ?_⟩)
  all_goals (repeat' apply And.intro)
  all_goals try (first
    | exact trivial
    | exact rfl
    | exact fun _ _ => A.sim.refl _
    | exact A.sim.refl _
    | exact Nat.le_refl _
    | omega
    | exact fun _ _ => trivial
    | exact fun i _ => shift_sim _ _ i
    | exact fun _ h => absurd h (Nat.not_lt_zero _)
    | exact fun i _ => isInt_byteAt _ i
    | (simp only [allP, List.nil_append, List.append_nil, List.cons_append, List.append_eq, and_true, true_and, inr_i64, inr_u8, inr_u64, min_i64, max_i64, min_u64, max_u64, min_u8, max_u8, A.purePL, A.pureP, A.sureP, A.surePL, Int.toNat_natCast, Int.reduceToNat, addI, cHi, cLo, hiN, loN, subO, addO, hasIdx, cond_true, cond_false]; done)
    | (simp only [allP, List.nil_append, List.append_nil, List.cons_append, List.append_eq, and_true, true_and, inr_i64, inr_u8, inr_u64, min_i64, max_i64, min_u64, max_u64, min_u8, max_u8, A.purePL, A.pureP, A.sureP, A.surePL, Int.toNat_natCast, Int.reduceToNat, addI, cHi, cLo, hiN, loN, subO, addO, hasIdx, cond_true, cond_false]; omega)
    | (simp only [allP, List.nil_append, List.append_nil, List.cons_append, List.append_eq, and_true, true_and, inr_i64, inr_u8, inr_u64, min_i64, max_i64, min_u64, max_u64, min_u8, max_u8, A.purePL, A.pureP, A.sureP, A.surePL, Int.toNat_natCast, Int.reduceToNat, addI, cHi, cLo, hiN, loN, subO, addO, hasIdx, cond_true, cond_false]; (repeat' apply And.intro) <;> first | exact trivial | rfl | omega | decide)
    )
  have hL10 : L.length ≤ 10 := by omega
  have hLk : L.length ≤ ks.length := by omega
  refine W.loopA (Nat) (fun i => i ≤ L.length ∧ ∀ j, j < i → (L.getD j default).length ≤ 40) (fun i => L.length - i) (fun i => [(5, .own 1 500 0 (accL (fr1 L ks) i).length), (6, .int .i64 i)]) (fun i => [(500, some (.arr 1 (accL (fr1 L ks) i).length (byteAt (accL (fr1 L ks) i))))]) [] (0) (⟨Nat.zero_le _, fun _ h => absurd h (Nat.not_lt_zero _)⟩) ?_
  (conv => whnf); refine ⟨?_, ?_⟩; focus ((conv => whnf); refine ⟨rfl, rfl, rfl, rfl, rfl, rfl, ?_, ?_⟩; (focus ((repeat' apply And.intro) <;> first | exact trivial | (intro i _; rw [Nat.zero_add]; exact A.sim.refl _) | with_reducible exact rfl | exact fun _ _ => A.sim.refl _ | exact A.sim.refl _ | exact rfl | exact Nat.le_refl _ | omega | exact fun i _ => shift_sim _ _ i | exact fun _ _ => trivial | exact fun _ h => absurd h (Nat.not_lt_zero _))); (focus ((repeat' apply And.intro) <;> first | exact trivial | (intro i _; rw [Nat.zero_add]; exact A.sim.refl _) | with_reducible exact rfl | exact fun _ _ => A.sim.refl _ | exact A.sim.refl _ | exact rfl | exact Nat.le_refl _ | omega | exact fun i _ => shift_sim _ _ i | exact fun _ _ => trivial | exact fun _ h => absurd h (Nat.not_lt_zero _))))
  rintro i ⟨hi, hj⟩ ih
  have hfl : ∀ j, j < i → (fr1 L ks j).length ≤ 61 := fun j h => by
    have := hj j h
    unfold fr1
    rw [frameB_len]; omega
  have hlen := accL_len (fr1 L ks) 61 i hfl
  have k8 := (ks.getD i 0).toNat_lt
  have hkw : IntKind.i64.wrap (((ks.getD i 0).toNat : Int) % 255) = ((ks.getD i 0).toNat : Int) % 255 := wrap_i64_in (by omega) (by omega)
  have hs := accL_succ (fr1 L ks) i
  have p1 : (L.getD i default).length ≤ 40 → _ := fun h => put_does (((ks.getD i 0).toNat : Int) % 255 + 1) i (L.getD i default) (inr_i64.2 (by omega)) (inr_i64.2 (by omega)) (by omega)
  rw [show putS (((ks.getD i 0).toNat : Int) % 255 + 1) i (L.getD i default) = putS (((ks.getD i 0).toNat : Int) % 255 + 1) i (L.getD i default) from rfl] at p1
  have p2 : (L.getD i default).length ≤ 40 → Does Try.prog 8 [.int .i64 (((ks.getD i 0).toNat : Int) % 255 + 1), .int .i64 i, bytesA (L.getD i default)] [] [1] (Is (.tup [.own 1 1 0 (fr1 L ks i).length, .int .i64 0]) [(1, some (.arr 1 (fr1 L ks i).length (byteAt (fr1 L ks i))))]) := fun h => by
    have := p1 h
    rw [putS_ok (by omega) (by omega) (by omega) (by omega)] at this
    exact this
  have hj1 : (L.getD i default).length ≤ 40 → ∀ j, j < i + 1 → (L.getD j default).length ≤ 40 := fun h j hlt => by
    rcases Nat.lt_succ_iff_lt_or_eq.1 hlt with h1 | h1
    · exact hj j h1
    · rw [h1]; exact h
  have hl1 : (L.getD i default).length ≤ 40 → (fr1 L ks i).length ≤ 61 := fun h => by unfold fr1; rw [frameB_len]; omega
  have hs1 : (accL (fr1 L ks) i).length + (fr1 L ks i).length = (accL (fr1 L ks) (i + 1)).length := by rw [hs, List.length_append]
  have hcat : ∀ n j, j < n → (catF (accL (fr1 L ks) i).length (byteAt (accL (fr1 L ks) i)) (shiftF 0 (byteAt (fr1 L ks i))) j).sim (byteAt (accL (fr1 L ks) (i + 1)) j) := fun n j _ => by
    rw [shift_fun, List.drop_zero, cat_fun rfl, ← hs]; exact .refl _
  refine W.run TOK 135 hΓ 1000 ?_
  conv => whnf
  refine ⟨?_, ?_⟩
  repeat' first
    | assumption
    | exact Bool.noConfusion hb
    | exact absurd hb (by decide)
    | (exfalso; omega)
    | (refine W.toA (ih (i + 1) ?_ ?_) ?_; rotate_left 2; (conv => whnf); refine ⟨rfl, rfl, rfl, rfl, rfl, rfl, ?_, ?_⟩; (focus ((repeat' apply And.intro) <;> first | exact trivial | (intro i _; rw [Nat.zero_add]; exact A.sim.refl _) | with_reducible exact rfl | exact fun _ _ => A.sim.refl _ | exact A.sim.refl _ | exact rfl | exact Nat.le_refl _ | omega | exact fun i _ => shift_sim _ _ i | exact fun _ _ => trivial | exact fun _ h => absurd h (Nat.not_lt_zero _) | exact congrArg (fun q => q + 1) hkw | exact hs1 | exact Nat.le_of_eq hs1.symm | exact hcat _)); (focus ((repeat' apply And.intro) <;> first | exact trivial | (intro i _; rw [Nat.zero_add]; exact A.sim.refl _) | with_reducible exact rfl | exact fun _ _ => A.sim.refl _ | exact A.sim.refl _ | exact rfl | exact Nat.le_refl _ | omega | exact fun i _ => shift_sim _ _ i | exact fun _ _ => trivial | exact fun _ h => absurd h (Nat.not_lt_zero _) | exact congrArg (fun q => q + 1) hkw | exact hs1 | exact Nat.le_of_eq hs1.symm | exact hcat _)))
    | (refine W.retY TOK rfl rfl ⟨?_, ?_⟩)
    | (refine W.branch rfl (fun hb => ?_) (fun hb => ?_) <;> ((try simp only [decide_eq_true_eq, decide_eq_false_iff_not, Bool.not_eq_true', Bool.not_eq_false', Int.not_lt, Int.not_le, cond_true, cond_false, reduceCtorEq, Int.toNat_natCast, Int.reduceToNat, addI] at hb); (try replace hb := of_decide_eq_true hb); (try replace hb := of_decide_eq_false hb)))
    | (refine D.branch rfl (fun hb => ?_) (fun hb => ?_) <;> ((try simp only [decide_eq_true_eq, decide_eq_false_iff_not, Bool.not_eq_true', Bool.not_eq_false', Int.not_lt, Int.not_le, cond_true, cond_false, reduceCtorEq, Int.toNat_natCast, Int.reduceToNat, addI] at hb); (try replace hb := of_decide_eq_true hb); (try replace hb := of_decide_eq_false hb)))
    | (refine D.callA (p2 (by omega)) rfl rfl rfl rfl hΓ rfl ?_; (conv => whnf); refine ⟨rfl, rfl, rfl, ?_, ?_, ?_, ?_⟩; (focus ((repeat' apply And.intro) <;> first | exact trivial | (intro i _; rw [Nat.zero_add]; exact A.sim.refl _) | with_reducible exact rfl | exact fun _ _ => A.sim.refl _ | exact A.sim.refl _ | exact rfl | exact Nat.le_refl _ | omega | exact fun i _ => shift_sim _ _ i | exact fun _ _ => trivial | exact fun _ h => absurd h (Nat.not_lt_zero _) | exact congrArg (fun q => q + 1) hkw | exact hs1 | exact Nat.le_of_eq hs1.symm | exact hcat _)); (focus ((repeat' apply And.intro) <;> first | exact trivial | (intro i _; rw [Nat.zero_add]; exact A.sim.refl _) | with_reducible exact rfl | exact fun _ _ => A.sim.refl _ | exact A.sim.refl _ | exact rfl | exact Nat.le_refl _ | omega | exact fun i _ => shift_sim _ _ i | exact fun _ _ => trivial | exact fun _ h => absurd h (Nat.not_lt_zero _) | exact congrArg (fun q => q + 1) hkw | exact hs1 | exact Nat.le_of_eq hs1.symm | exact hcat _)); (focus ((repeat' apply And.intro) <;> first | exact trivial | (intro i _; rw [Nat.zero_add]; exact A.sim.refl _) | with_reducible exact rfl | exact fun _ _ => A.sim.refl _ | exact A.sim.refl _ | exact rfl | exact Nat.le_refl _ | omega | exact fun i _ => shift_sim _ _ i | exact fun _ _ => trivial | exact fun _ h => absurd h (Nat.not_lt_zero _) | exact congrArg (fun q => q + 1) hkw | exact hs1 | exact Nat.le_of_eq hs1.symm | exact hcat _)); (conv => whnf))
    | (refine W.callA (p2 (by omega)) rfl rfl rfl rfl hΓ rfl ?_; (conv => whnf); refine ⟨rfl, rfl, ?_, ?_, ?_, ?_⟩; (focus ((repeat' apply And.intro) <;> first | exact trivial | (intro i _; rw [Nat.zero_add]; exact A.sim.refl _) | with_reducible exact rfl | exact fun _ _ => A.sim.refl _ | exact A.sim.refl _ | exact rfl | exact Nat.le_refl _ | omega | exact fun i _ => shift_sim _ _ i | exact fun _ _ => trivial | exact fun _ h => absurd h (Nat.not_lt_zero _) | exact congrArg (fun q => q + 1) hkw | exact hs1 | exact Nat.le_of_eq hs1.symm | exact hcat _)); (focus ((repeat' apply And.intro) <;> first | exact trivial | (intro i _; rw [Nat.zero_add]; exact A.sim.refl _) | with_reducible exact rfl | exact fun _ _ => A.sim.refl _ | exact A.sim.refl _ | exact rfl | exact Nat.le_refl _ | omega | exact fun i _ => shift_sim _ _ i | exact fun _ _ => trivial | exact fun _ h => absurd h (Nat.not_lt_zero _) | exact congrArg (fun q => q + 1) hkw | exact hs1 | exact Nat.le_of_eq hs1.symm | exact hcat _)); (focus ((repeat' apply And.intro) <;> first | exact trivial | (intro i _; rw [Nat.zero_add]; exact A.sim.refl _) | with_reducible exact rfl | exact fun _ _ => A.sim.refl _ | exact A.sim.refl _ | exact rfl | exact Nat.le_refl _ | omega | exact fun i _ => shift_sim _ _ i | exact fun _ _ => trivial | exact fun _ h => absurd h (Nat.not_lt_zero _) | exact congrArg (fun q => q + 1) hkw | exact hs1 | exact Nat.le_of_eq hs1.symm | exact hcat _)); (conv => whnf))
    | (refine W.go TOK 135 hΓ 1000 rfl ?_; (conv => whnf); refine ⟨?_, ?_⟩)
    | (refine D.go TOK 135 hΓ 1000 rfl ?_; (conv => whnf); refine ⟨?_, ?_⟩)
    | (refine W.drawn rfl rfl ?_; refine D.run TOK 135 hΓ 1000 ?_; (conv => whnf); refine ⟨?_, ?_⟩)
  all_goals (repeat' apply And.intro)
  all_goals try (first
    | exact trivial
    | exact rfl
    | exact fun _ _ => A.sim.refl _
    | exact A.sim.refl _
    | exact Nat.le_refl _
    | omega
    | exact fun _ _ => trivial
    | exact fun i _ => shift_sim _ _ i
    | exact fun _ h => absurd h (Nat.not_lt_zero _)
    | exact fun i _ => isInt_byteAt _ i
    | exact hj1 (by omega)
    | (have := hl1 (by omega); omega)
    | (have := hl1 (by omega); simp only [allP, and_true, A.sureP, true_and]; omega)
    | (simp only [allP, List.nil_append, List.append_nil, List.cons_append, List.append_eq, and_true, true_and, inr_i64, inr_u8, inr_u64, min_i64, max_i64, min_u64, max_u64, min_u8, max_u8, A.purePL, A.pureP, A.sureP, A.surePL, Int.toNat_natCast, Int.reduceToNat, addI, cHi, cLo, hiN, loN, subO, addO, hasIdx, cond_true, cond_false, hkw]; done)
    | (simp only [allP, List.nil_append, List.append_nil, List.cons_append, List.append_eq, and_true, true_and, inr_i64, inr_u8, inr_u64, min_i64, max_i64, min_u64, max_u64, min_u8, max_u8, A.purePL, A.pureP, A.sureP, A.surePL, Int.toNat_natCast, Int.reduceToNat, addI, cHi, cLo, hiN, loN, subO, addO, hasIdx, cond_true, cond_false, hkw]; omega)
    | (simp only [allP, List.nil_append, List.append_nil, List.cons_append, List.append_eq, and_true, true_and, inr_i64, inr_u8, inr_u64, min_i64, max_i64, min_u64, max_u64, min_u8, max_u8, A.purePL, A.pureP, A.sureP, A.surePL, Int.toNat_natCast, Int.reduceToNat, addI, cHi, cLo, hiN, loN, subO, addO, hasIdx, cond_true, cond_false, hkw]; (repeat' apply And.intro) <;> first | exact trivial | rfl | omega | decide)
    )
  have hi : i = L.length := by omega
  subst hi
  clear ih hs hkw k8 hs1 hcat hl1 hj1 p1 p2
  generalize hf : fr1 L ks = f at *
  have hrl : ∀ i, i ≤ L.length → (accL f i).length + (rstL f L.length i).length = (accL f L.length).length := fun i hi => by
    rw [← acc_rst f L.length (L.length - i) i (by omega), List.length_append]
  refine W.loopA (Nat) (fun i => i ≤ L.length) (fun i => L.length - i) (fun i => [(5, .own 1 500 (accL f i).length (rstL f L.length i).length), (9, .int .i64 i)]) (fun i => [(500, some (.arr 1 (accL f L.length).length (byteAt (accL f L.length))))]) [20, 21, 22, 23, 24, 25, 26, 27, 28, 29, 30, 31, 32, 33, 34, 35, 36, 37, 38, 39, 40, 41, 42, 43, 44, 45, 46, 47, 48, 49, 50, 51, 52, 53, 54, 55, 56, 57, 58, 59, 60, 61, 62, 63, 64] (0) ((Nat.zero_le _)) ?_
  (conv => whnf); refine ⟨?_, ?_⟩; focus ((conv => whnf); refine ⟨rfl, rfl, rfl, rfl, rfl, rfl, ?_, ?_⟩; (focus ((repeat' apply And.intro) <;> first | exact trivial | (intro i _; rw [Nat.zero_add]; exact A.sim.refl _) | with_reducible exact rfl | exact fun _ _ => A.sim.refl _ | exact A.sim.refl _ | exact rfl | exact Nat.le_refl _ | omega | exact fun i _ => shift_sim _ _ i | exact fun _ _ => trivial | exact fun _ h => absurd h (Nat.not_lt_zero _) | (rw [rstL_zero]))); (focus ((repeat' apply And.intro) <;> first | exact trivial | (intro i _; rw [Nat.zero_add]; exact A.sim.refl _) | with_reducible exact rfl | exact fun _ _ => A.sim.refl _ | exact A.sim.refl _ | exact rfl | exact Nat.le_refl _ | omega | exact fun i _ => shift_sim _ _ i | exact fun _ _ => trivial | exact fun _ h => absurd h (Nat.not_lt_zero _) | (rw [rstL_zero]))))
  rintro i hi ih
  have hi : i ≤ L.length := hi
  have hro := hrl i hi
  have hsub : ∀ n, n ≤ (rstL f L.length i).length → ∀ j, j < n → (byteAt (accL f L.length) ((accL f i).length + j)).sim (byteAt (rstL f L.length i) j) := fun n hn j hj => by
    rw [← acc_rst f L.length (L.length - i) i (by omega), at_app]; exact .refl _
  by_cases hlt : i < L.length
  rotate_left
  · have he : i = L.length := by omega
    subst he
    have r1 := read_does [] (by decide)
    rw [show readS [] = frE 21 from if_pos (by decide)] at r1
    have h0 : (rstL f L.length L.length).length = 0 := by rw [rstL_end]; rfl
    refine W.run TOK 135 hΓ 1000 ?_
    conv => whnf
    refine ⟨?_, ?_⟩
    repeat' first
      | assumption
      | exact Bool.noConfusion hb
      | exact absurd hb (by decide)
      | (exfalso; omega)
      | exact absurd hb (by decide)
      | (refine W.retY TOK rfl rfl ⟨?_, ?_⟩)
      | (refine W.branch rfl (fun hb => ?_) (fun hb => ?_) <;> ((try simp only [decide_eq_true_eq, decide_eq_false_iff_not, Bool.not_eq_true', Bool.not_eq_false', Int.not_lt, Int.not_le, cond_true, cond_false, reduceCtorEq, Int.toNat_natCast, Int.reduceToNat, addI] at hb); (try replace hb := of_decide_eq_true hb); (try replace hb := of_decide_eq_false hb)))
      | (refine D.branch rfl (fun hb => ?_) (fun hb => ?_) <;> ((try simp only [decide_eq_true_eq, decide_eq_false_iff_not, Bool.not_eq_true', Bool.not_eq_false', Int.not_lt, Int.not_le, cond_true, cond_false, reduceCtorEq, Int.toNat_natCast, Int.reduceToNat, addI] at hb); (try replace hb := of_decide_eq_true hb); (try replace hb := of_decide_eq_false hb)))
      | (refine D.callA (r1) rfl rfl rfl rfl hΓ rfl ?_; (conv => whnf); refine ⟨rfl, rfl, rfl, ?_, ?_, ?_, ?_⟩; (focus ((repeat' apply And.intro) <;> first | exact trivial | (intro i _; rw [Nat.zero_add]; exact A.sim.refl _) | with_reducible exact rfl | exact fun _ _ => A.sim.refl _ | exact A.sim.refl _ | exact rfl | exact Nat.le_refl _ | omega | exact fun i _ => shift_sim _ _ i | exact fun _ _ => trivial | exact fun _ h => absurd h (Nat.not_lt_zero _) | exact h0 | (rw [h0]; exact fun _ h => absurd h (Nat.not_lt_zero _)))); (focus ((repeat' apply And.intro) <;> first | exact trivial | (intro i _; rw [Nat.zero_add]; exact A.sim.refl _) | with_reducible exact rfl | exact fun _ _ => A.sim.refl _ | exact A.sim.refl _ | exact rfl | exact Nat.le_refl _ | omega | exact fun i _ => shift_sim _ _ i | exact fun _ _ => trivial | exact fun _ h => absurd h (Nat.not_lt_zero _) | exact h0 | (rw [h0]; exact fun _ h => absurd h (Nat.not_lt_zero _)))); (focus ((repeat' apply And.intro) <;> first | exact trivial | (intro i _; rw [Nat.zero_add]; exact A.sim.refl _) | with_reducible exact rfl | exact fun _ _ => A.sim.refl _ | exact A.sim.refl _ | exact rfl | exact Nat.le_refl _ | omega | exact fun i _ => shift_sim _ _ i | exact fun _ _ => trivial | exact fun _ h => absurd h (Nat.not_lt_zero _) | exact h0 | (rw [h0]; exact fun _ h => absurd h (Nat.not_lt_zero _)))); (conv => whnf))
      | (refine W.callA (r1) rfl rfl rfl rfl hΓ rfl ?_; (conv => whnf); refine ⟨rfl, rfl, ?_, ?_, ?_, ?_⟩; (focus ((repeat' apply And.intro) <;> first | exact trivial | (intro i _; rw [Nat.zero_add]; exact A.sim.refl _) | with_reducible exact rfl | exact fun _ _ => A.sim.refl _ | exact A.sim.refl _ | exact rfl | exact Nat.le_refl _ | omega | exact fun i _ => shift_sim _ _ i | exact fun _ _ => trivial | exact fun _ h => absurd h (Nat.not_lt_zero _) | exact h0 | (rw [h0]; exact fun _ h => absurd h (Nat.not_lt_zero _)))); (focus ((repeat' apply And.intro) <;> first | exact trivial | (intro i _; rw [Nat.zero_add]; exact A.sim.refl _) | with_reducible exact rfl | exact fun _ _ => A.sim.refl _ | exact A.sim.refl _ | exact rfl | exact Nat.le_refl _ | omega | exact fun i _ => shift_sim _ _ i | exact fun _ _ => trivial | exact fun _ h => absurd h (Nat.not_lt_zero _) | exact h0 | (rw [h0]; exact fun _ h => absurd h (Nat.not_lt_zero _)))); (focus ((repeat' apply And.intro) <;> first | exact trivial | (intro i _; rw [Nat.zero_add]; exact A.sim.refl _) | with_reducible exact rfl | exact fun _ _ => A.sim.refl _ | exact A.sim.refl _ | exact rfl | exact Nat.le_refl _ | omega | exact fun i _ => shift_sim _ _ i | exact fun _ _ => trivial | exact fun _ h => absurd h (Nat.not_lt_zero _) | exact h0 | (rw [h0]; exact fun _ h => absurd h (Nat.not_lt_zero _)))); (conv => whnf))
      | (refine W.go TOK 135 hΓ 1000 rfl ?_; (conv => whnf); refine ⟨?_, ?_⟩)
      | (refine D.go TOK 135 hΓ 1000 rfl ?_; (conv => whnf); refine ⟨?_, ?_⟩)
      | (refine W.drawn rfl rfl ?_; refine D.run TOK 135 hΓ 1000 ?_; (conv => whnf); refine ⟨?_, ?_⟩)
    all_goals (repeat' apply And.intro)
    all_goals try (first
      | exact trivial
      | exact rfl
      | exact fun _ _ => A.sim.refl _
      | exact A.sim.refl _
      | exact Nat.le_refl _
      | omega
      | exact fun _ _ => trivial
      | exact fun i _ => shift_sim _ _ i
      | exact fun _ h => absurd h (Nat.not_lt_zero _)
      | exact fun i _ => isInt_byteAt _ i
      | (simp only [allP, List.nil_append, List.append_nil, List.cons_append, List.append_eq, and_true, true_and, inr_i64, inr_u8, inr_u64, min_i64, max_i64, min_u64, max_u64, min_u8, max_u8, A.purePL, A.pureP, A.sureP, A.surePL, Int.toNat_natCast, Int.reduceToNat, addI, cHi, cLo, hiN, loN, subO, addO, hasIdx, cond_true, cond_false]; done)
      | (simp only [allP, List.nil_append, List.append_nil, List.cons_append, List.append_eq, and_true, true_and, inr_i64, inr_u8, inr_u64, min_i64, max_i64, min_u64, max_u64, min_u8, max_u8, A.purePL, A.pureP, A.sureP, A.surePL, Int.toNat_natCast, Int.reduceToNat, addI, cHi, cLo, hiN, loN, subO, addO, hasIdx, cond_true, cond_false]; omega)
      | (simp only [allP, List.nil_append, List.append_nil, List.cons_append, List.append_eq, and_true, true_and, inr_i64, inr_u8, inr_u64, min_i64, max_i64, min_u64, max_u64, min_u8, max_u8, A.purePL, A.pureP, A.sureP, A.surePL, Int.toNat_natCast, Int.reduceToNat, addI, cHi, cLo, hiN, loN, subO, addO, hasIdx, cond_true, cond_false]; (repeat' apply And.intro) <;> first | exact trivial | rfl | omega | decide)
      )
  have hr := rstL_succ f hlt
  have hfi : f i = frameB (kdS ks i) i (L.getD i default) := by rw [← hf]; rfl
  have hkn := kdS_nat ks i
  have k8 := (ks.getD i 0).toNat_lt
  have hkw : IntKind.i64.wrap (((ks.getD i 0).toNat : Int) % 255) = ((ks.getD i 0).toNat : Int) % 255 := wrap_i64_in (by omega) (by omega)
  have hj4 := hj i hlt
  have hfil : (f i).length = 21 + (L.getD i default).length := by rw [hfi, frameB_len]
  have r1 := read_does (rstL f L.length i) (by omega)
  rw [show readS (rstL f L.length i) = readS (frameB (kdS ks i) i (L.getD i default) ++ rstL f L.length (i + 1)) by rw [hr, hfi], read_frame _ _ _ _ (by omega) (by omega) (by omega) (by omega)] at r1
  dsimp only at r1
  have hr1 : (rstL f L.length i).length = 21 + (L.getD i default).length + (rstL f L.length (i + 1)).length := by rw [hr, List.length_append, hfil]
  have ha1 : (accL f (i + 1)).length = (accL f i).length + (21 + (L.getD i default).length) := by rw [accL_succ, List.length_append, hfil]
  have hne : ¬ ¬ ((kdS ks i).toNat : Int) = IntKind.i64.wrap (((ks.getD i 0).toNat : Int) % 255) + 1 := fun h => h (by rw [hkw, hkn])
  have hre : ∀ n : Int, n = ((21 + (L.getD i default).length : Nat) : Int) → (rstL f L.length i).length - n.toNat = (rstL f L.length (i + 1)).length := fun n hn => by omega
  refine W.run TOK 135 hΓ 1000 ?_
  conv => whnf
  refine ⟨?_, ?_⟩
  repeat' first
    | assumption
    | exact Bool.noConfusion hb
    | exact absurd hb (by decide)
    | exact absurd hb hne
    | exact absurd rfl hb
    | (exfalso; omega)
    | (exfalso; simp at hb; done)
    | (refine W.toA (ih (i + 1) ?_ ?_) ?_; rotate_left 2; (conv => whnf); refine ⟨rfl, rfl, rfl, rfl, rfl, rfl, ?_, ?_⟩; (focus ((repeat' apply And.intro) <;> first | exact trivial | (intro i _; rw [Nat.zero_add]; exact A.sim.refl _) | with_reducible exact rfl | exact fun _ _ => A.sim.refl _ | exact A.sim.refl _ | exact rfl | exact Nat.le_refl _ | omega | exact fun i _ => shift_sim _ _ i | exact fun _ _ => trivial | exact fun _ h => absurd h (Nat.not_lt_zero _) | exact hsub _ (Nat.le_refl _) | (show addI _ _ = _; rw [addI_eq]; omega) | exact hre _ rfl)); (focus ((repeat' apply And.intro) <;> first | exact trivial | (intro i _; rw [Nat.zero_add]; exact A.sim.refl _) | with_reducible exact rfl | exact fun _ _ => A.sim.refl _ | exact A.sim.refl _ | exact rfl | exact Nat.le_refl _ | omega | exact fun i _ => shift_sim _ _ i | exact fun _ _ => trivial | exact fun _ h => absurd h (Nat.not_lt_zero _) | exact hsub _ (Nat.le_refl _) | (show addI _ _ = _; rw [addI_eq]; omega) | exact hre _ rfl)))
    | (refine W.retY TOK rfl rfl ⟨?_, ?_⟩)
    | (refine W.branch rfl (fun hb => ?_) (fun hb => ?_) <;> ((try simp only [decide_eq_true_eq, decide_eq_false_iff_not, Bool.not_eq_true', Bool.not_eq_false', Int.not_lt, Int.not_le, cond_true, cond_false, reduceCtorEq, Int.toNat_natCast, Int.reduceToNat, addI] at hb); (try replace hb := of_decide_eq_true hb); (try replace hb := of_decide_eq_false hb)))
    | (refine D.branch rfl (fun hb => ?_) (fun hb => ?_) <;> ((try simp only [decide_eq_true_eq, decide_eq_false_iff_not, Bool.not_eq_true', Bool.not_eq_false', Int.not_lt, Int.not_le, cond_true, cond_false, reduceCtorEq, Int.toNat_natCast, Int.reduceToNat, addI] at hb); (try replace hb := of_decide_eq_true hb); (try replace hb := of_decide_eq_false hb)))
    | (refine D.callA (r1) rfl rfl rfl rfl hΓ rfl ?_; (conv => whnf); refine ⟨rfl, rfl, rfl, ?_, ?_, ?_, ?_⟩; (focus ((repeat' apply And.intro) <;> first | exact trivial | (intro i _; rw [Nat.zero_add]; exact A.sim.refl _) | with_reducible exact rfl | exact fun _ _ => A.sim.refl _ | exact A.sim.refl _ | exact rfl | exact Nat.le_refl _ | omega | exact fun i _ => shift_sim _ _ i | exact fun _ _ => trivial | exact fun _ h => absurd h (Nat.not_lt_zero _) | exact hsub _ (Nat.le_refl _) | (show addI _ _ = _; rw [addI_eq]; omega) | exact hre _ rfl)); (focus ((repeat' apply And.intro) <;> first | exact trivial | (intro i _; rw [Nat.zero_add]; exact A.sim.refl _) | with_reducible exact rfl | exact fun _ _ => A.sim.refl _ | exact A.sim.refl _ | exact rfl | exact Nat.le_refl _ | omega | exact fun i _ => shift_sim _ _ i | exact fun _ _ => trivial | exact fun _ h => absurd h (Nat.not_lt_zero _) | exact hsub _ (Nat.le_refl _) | (show addI _ _ = _; rw [addI_eq]; omega) | exact hre _ rfl)); (focus ((repeat' apply And.intro) <;> first | exact trivial | (intro i _; rw [Nat.zero_add]; exact A.sim.refl _) | with_reducible exact rfl | exact fun _ _ => A.sim.refl _ | exact A.sim.refl _ | exact rfl | exact Nat.le_refl _ | omega | exact fun i _ => shift_sim _ _ i | exact fun _ _ => trivial | exact fun _ h => absurd h (Nat.not_lt_zero _) | exact hsub _ (Nat.le_refl _) | (show addI _ _ = _; rw [addI_eq]; omega) | exact hre _ rfl)); (conv => whnf))
    | (refine W.callA (r1) rfl rfl rfl rfl hΓ rfl ?_; (conv => whnf); refine ⟨rfl, rfl, ?_, ?_, ?_, ?_⟩; (focus ((repeat' apply And.intro) <;> first | exact trivial | (intro i _; rw [Nat.zero_add]; exact A.sim.refl _) | with_reducible exact rfl | exact fun _ _ => A.sim.refl _ | exact A.sim.refl _ | exact rfl | exact Nat.le_refl _ | omega | exact fun i _ => shift_sim _ _ i | exact fun _ _ => trivial | exact fun _ h => absurd h (Nat.not_lt_zero _) | exact hsub _ (Nat.le_refl _) | (show addI _ _ = _; rw [addI_eq]; omega) | exact hre _ rfl)); (focus ((repeat' apply And.intro) <;> first | exact trivial | (intro i _; rw [Nat.zero_add]; exact A.sim.refl _) | with_reducible exact rfl | exact fun _ _ => A.sim.refl _ | exact A.sim.refl _ | exact rfl | exact Nat.le_refl _ | omega | exact fun i _ => shift_sim _ _ i | exact fun _ _ => trivial | exact fun _ h => absurd h (Nat.not_lt_zero _) | exact hsub _ (Nat.le_refl _) | (show addI _ _ = _; rw [addI_eq]; omega) | exact hre _ rfl)); (focus ((repeat' apply And.intro) <;> first | exact trivial | (intro i _; rw [Nat.zero_add]; exact A.sim.refl _) | with_reducible exact rfl | exact fun _ _ => A.sim.refl _ | exact A.sim.refl _ | exact rfl | exact Nat.le_refl _ | omega | exact fun i _ => shift_sim _ _ i | exact fun _ _ => trivial | exact fun _ h => absurd h (Nat.not_lt_zero _) | exact hsub _ (Nat.le_refl _) | (show addI _ _ = _; rw [addI_eq]; omega) | exact hre _ rfl)); (conv => whnf))
    | (refine W.go TOK 135 hΓ 1000 rfl ?_; (conv => whnf); refine ⟨?_, ?_⟩)
    | (refine D.go TOK 135 hΓ 1000 rfl ?_; (conv => whnf); refine ⟨?_, ?_⟩)
    | (refine W.drawn rfl rfl ?_; refine D.run TOK 135 hΓ 1000 ?_; (conv => whnf); refine ⟨?_, ?_⟩)
  all_goals (repeat' apply And.intro)
  all_goals try (first
    | exact trivial
    | exact rfl
    | exact fun _ _ => A.sim.refl _
    | exact A.sim.refl _
    | exact Nat.le_refl _
    | omega
    | exact fun _ _ => trivial
    | exact fun i _ => shift_sim _ _ i
    | exact fun _ h => absurd h (Nat.not_lt_zero _)
    | exact fun i _ => isInt_byteAt _ i
    | exact fun i _ => isInt_shift _ _ i
    | exact fun i _ => isInt_byteAt _ _
    | (simp only [hkw]; omega)
    | (simp only [allP, List.nil_append, List.append_nil, List.cons_append, List.append_eq, and_true, true_and, inr_i64, inr_u8, inr_u64, min_i64, max_i64, min_u64, max_u64, min_u8, max_u8, A.purePL, A.pureP, A.sureP, A.surePL, Int.toNat_natCast, Int.reduceToNat, addI, cHi, cLo, hiN, loN, subO, addO, hasIdx, cond_true, cond_false, hkw]; done)
    | (simp only [allP, List.nil_append, List.append_nil, List.cons_append, List.append_eq, and_true, true_and, inr_i64, inr_u8, inr_u64, min_i64, max_i64, min_u64, max_u64, min_u8, max_u8, A.purePL, A.pureP, A.sureP, A.surePL, Int.toNat_natCast, Int.reduceToNat, addI, cHi, cLo, hiN, loN, subO, addO, hasIdx, cond_true, cond_false, hkw]; omega)
    | (simp only [allP, List.nil_append, List.append_nil, List.cons_append, List.append_eq, and_true, true_and, inr_i64, inr_u8, inr_u64, min_i64, max_i64, min_u64, max_u64, min_u8, max_u8, A.purePL, A.pureP, A.sureP, A.surePL, Int.toNat_natCast, Int.reduceToNat, addI, cHi, cLo, hiN, loN, subO, addO, hasIdx, cond_true, cond_false, hkw]; (repeat' apply And.intro) <;> first | exact trivial | rfl | omega | decide)
    )

theorem frameChain_law (x0 x1 : A) (s0 : Shaped (.slice (.slice (.int .u8))) x0) (s1 : Shaped (.slice (.int .u8)) x1) : Does Try.prog 6 [x0, x1] [] [] Yes := by
  obtain ⟨a0, e0, h0⟩ := (Rep.slice Rep.bytes) x0 s0
  obtain ⟨a1, e1, h1⟩ := Rep.bytes x1 s1
  exact Does.args (ys := [(sl (Sh.size (.slice (.int .u8))) bytesA) a0, bytesA a1]) ⟨e0, e1, trivial⟩ ⟨s0.pure, s1.pure, trivial⟩ (chain_does a0 a1 h0.1 h1)
end Go.Proofs.Ytinlkodebiifjaa
