/- Walks: the statements of layer 12. -/
import Derived.Test.YtiapjcncfoefeaaDk12k
set_option linter.unusedSimpArgs false
set_option linter.unusedVariables false
namespace Go.Proofs.Ytiapjcncfoefeaa
open VX
set_option maxRecDepth 100000
set_option maxHeartbeats 4000000
def Ts13 : Tab := { l := tabL, stop := [13] }
theorem Ts13OK : TabOK Try.prog Ts13.l := tabOK
structure FailJ (k : Nat) (l : List UInt8) (x : Nat × DK.D) : Prop where
  i : x.1 ≤ l.length
  fl : x.2.fail = if x.1 ≤ k then (k : Int) - x.1 else -1
  rm : x.2.room = 1048576
  b : x.2.f0.b.length ≤ 2 + x.1
  p : x.2.f0.ps.length ≤ 1 + x.1
  b1 : x.2.f1.b.length = 0
  p1 : x.2.f1.ps.length = 0
  b2 : x.2.f2.b.length = 0
  p2 : x.2.f2.ps.length = 0
theorem FailJ.ok {k : Nat} {l : List UInt8} {x : Nat × DK.D} (h : FailJ k l x) (hk : k < 20) (hl : l.length ≤ 30) : DK.Ok x.2 := by
  have h1 := h.i; have h2 := h.fl; have h3 := h.rm; have h4 := h.b; have h5 := h.p; have h6 := h.b1; have h7 := h.p1; have h8 := h.b2; have h9 := h.p2
  refine ⟨?_, ?_, by omega, by omega, by omega, by omega, by omega, by omega, by omega, by omega⟩ <;> (rw [h2]; split <;> omega)
theorem FailJ.next {k : Nat} {l : List UInt8} {x : Nat × DK.D} (h : FailJ k l x) (hi : x.1 < l.length) (f : DK.F) (hb : f.b.length ≤ x.2.f0.b.length + 1) (hp : f.ps.length ≤ x.2.f0.ps.length + 1) : FailJ k l (x.1 + 1, DK.set (DK.failD x.2) 0 f) := by
  have h2 := h.fl; have h4 := h.b; have h5 := h.p
  refine ⟨hi, ?_, h.rm, by show f.b.length ≤ 2 + (x.1 + 1); omega, by show f.ps.length ≤ 1 + (x.1 + 1); omega, h.b1, h.p1, h.b2, h.p2⟩
  show (if x.2.fail < 0 then x.2.fail else x.2.fail - 1) = if x.1 + 1 ≤ k then (k : Int) - ((x.1 + 1 : Nat) : Int) else -1
  rw [h2]
  by_cases hk : x.1 ≤ k
  · rw [if_pos hk]
    by_cases hk2 : x.1 + 1 ≤ k
    · rw [if_pos hk2, if_neg (by omega)]; omega
    · rw [if_neg hk2, if_neg (by omega)]; omega
  · rw [if_neg hk, if_pos (by decide : (-1 : Int) < 0), if_neg (by omega)]
theorem FailJ.fb {k : Nat} {l : List UInt8} {x : Nat × DK.D} (h : FailJ k l x) : DK.failB x.2 = decide (x.1 = k) := by
  have h2 := h.fl
  unfold DK.failB
  rw [h2]
  by_cases hk : x.1 ≤ k
  · rw [if_pos hk, decide_eq_false (by omega : ¬ (k : Int) - x.1 < 0), Bool.not_false, Bool.true_and]
    exact decide_eq_decide.2 (by omega)
  · rw [if_neg hk, decide_eq_false (by omega : ¬ x.1 = k)]
    rfl

theorem cutp_le (x : DK.F) (n : Nat) : (DK.cutF x n).ps.length ≤ x.ps.length + 1 := by
  have : ∀ (ps : List (List UInt8)) (n : Nat), (DK.cutP n ps).length ≤ ps.length := by
    intro ps
    induction ps with
    | nil => intro n; cases n <;> simp [DK.cutP]
    | cons p ps ih =>
      intro n
      cases n with
      | zero => simp [DK.cutP]
      | succ n => rw [DK.cutP, List.length_cons, List.length_cons]; have := ih (n + 1 - p.length); omega
  exact Nat.le_succ_of_le (this _ _)
theorem fails_law_does (n : UInt8) (l : List UInt8) : Does Try.prog 4 [VX.byte n, bytesA l] [] [] Yes := by
  have k8 := n.toNat_lt
  obtain ⟨k, hk⟩ : ∃ k, k = n.toNat % 20 := ⟨_, rfl⟩
  have hkw : IntKind.i64.wrap ((n.toNat : Int) % 20) = (k : Int) := by rw [wrap_i64_in (by omega) (by omega)]; omega
  have c0 : Does Try.prog 9 [.int .i64 1048576] [] [1, 2, 3, 4, 5, 6, 7] (Is (.ptr 1 []) (diskR 1 2 3 4 5 6 7 (⟨⟨[], []⟩, ⟨[], []⟩, ⟨[], []⟩, 1048576, -1⟩ : DK.D))) := newd_does 1048576
  have c1 : Does Try.prog 10 [.ptr 1000 [], .int .i64 (0), bytesA [120, 121]] (DR (⟨⟨[], []⟩, ⟨[], []⟩, ⟨[], []⟩, 1048576, -1⟩ : DK.D)) NW (Is (.int .i64 0) (DN (⟨⟨[], [[120, 121]]⟩, ⟨[], []⟩, ⟨[], []⟩, 1048576, -1⟩ : DK.D))) := append_does (⟨⟨[], []⟩, ⟨[], []⟩, ⟨[], []⟩, 1048576, -1⟩ : DK.D) (0) [120, 121] ⟨by decide, by decide, by decide, by decide, by decide, by decide, by decide, by decide, by decide, by decide⟩ (by decide)
  have c2 : Does Try.prog 15 [.ptr 1000 [], .int .i64 (IntKind.i64.wrap ((n.toNat : Int) % 20))] (DR (⟨⟨[], [[120, 121]]⟩, ⟨[], []⟩, ⟨[], []⟩, 1048576, -1⟩ : DK.D)) [] (Is (.tup []) (DR (⟨⟨[], [[120, 121]]⟩, ⟨[], []⟩, ⟨[], []⟩, 1048576, (k : Int)⟩ : DK.D))) := by
    have h := fail_does (⟨⟨[], [[120, 121]]⟩, ⟨[], []⟩, ⟨[], []⟩, 1048576, -1⟩ : DK.D) (IntKind.i64.wrap ((n.toNat : Int) % 20))
    rw [show DK.failSet (⟨⟨[], [[120, 121]]⟩, ⟨[], []⟩, ⟨[], []⟩, 1048576, -1⟩ : DK.D) (IntKind.i64.wrap ((n.toNat : Int) % 20)) = (⟨⟨[], [[120, 121]]⟩, ⟨[], []⟩, ⟨[], []⟩, 1048576, (k : Int)⟩ : DK.D) by unfold DK.failSet; rw [hkw, if_neg (by omega)]] at h
    exact h
  refine Does.intro (fn := Try.f4) Try.func4 rfl rfl fun Γ hΓ => ?_
  refine W.run TOK 88 hΓ 1000 ?_
  conv => whnf
  refine ⟨?_, ?_⟩
  repeat' first
    | assumption
    | exact Bool.noConfusion hb
    | exact absurd hb (by decide)
    | (exfalso; omega)
    | (exfalso; simp at hb; done)
    | (refine W.retY TOK rfl rfl ⟨?_, ?_⟩)
    | (refine W.branch rfl (fun hb => ?_) (fun hb => ?_) <;> ((try simp only [decide_eq_true_eq, decide_eq_false_iff_not, Bool.not_eq_true', Bool.not_eq_false', Int.not_lt, Int.not_le, cond_true, cond_false, reduceCtorEq, Int.toNat_natCast, Int.reduceToNat, addI] at hb); (try replace hb := of_decide_eq_true hb); (try replace hb := of_decide_eq_false hb)))
    | (refine D.branch rfl (fun hb => ?_) (fun hb => ?_) <;> ((try simp only [decide_eq_true_eq, decide_eq_false_iff_not, Bool.not_eq_true', Bool.not_eq_false', Int.not_lt, Int.not_le, cond_true, cond_false, reduceCtorEq, Int.toNat_natCast, Int.reduceToNat, addI] at hb); (try replace hb := of_decide_eq_true hb); (try replace hb := of_decide_eq_false hb)))
    | ((first | (refine D.callA (known_does) rfl rfl rfl rfl hΓ rfl ?_; (conv => whnf); refine ⟨rfl, rfl, rfl, ?_, ?_, ?_, ?_⟩) | (refine W.callA (known_does) rfl rfl rfl rfl hΓ rfl ?_; (conv => whnf); refine ⟨rfl, rfl, ?_, ?_, ?_, ?_⟩)); iterate 3 (focus ((repeat' apply And.intro) <;> first | exact trivial | (intro i _; rw [Nat.zero_add]; exact A.sim.refl _) | with_reducible exact rfl | exact fun _ _ => A.sim.refl _ | exact A.sim.refl _ | exact rfl | exact Nat.le_refl _ | omega | exact fun i _ => shift_sim _ _ i | exact fun _ _ => trivial | exact fun _ h => absurd h (Nat.not_lt_zero _) | (refine sim_lit ?_; (repeat' apply And.intro) <;> first | exact trivial | exact rfl))); (conv => whnf))
    | ((first | (refine D.callA (c0) rfl rfl rfl rfl hΓ rfl ?_; (conv => whnf); refine ⟨rfl, rfl, rfl, ?_, ?_, ?_, ?_⟩) | (refine W.callA (c0) rfl rfl rfl rfl hΓ rfl ?_; (conv => whnf); refine ⟨rfl, rfl, ?_, ?_, ?_, ?_⟩)); iterate 3 (focus ((repeat' apply And.intro) <;> first | exact trivial | (intro i _; rw [Nat.zero_add]; exact A.sim.refl _) | with_reducible exact rfl | exact fun _ _ => A.sim.refl _ | exact A.sim.refl _ | exact rfl | exact Nat.le_refl _ | omega | exact fun i _ => shift_sim _ _ i | exact fun _ _ => trivial | exact fun _ h => absurd h (Nat.not_lt_zero _) | (refine sim_lit ?_; (repeat' apply And.intro) <;> first | exact trivial | exact rfl))); (conv => whnf))
    | ((first | (refine D.callA (c1) rfl rfl rfl rfl hΓ rfl ?_; (conv => whnf); refine ⟨rfl, rfl, rfl, ?_, ?_, ?_, ?_⟩) | (refine W.callA (c1) rfl rfl rfl rfl hΓ rfl ?_; (conv => whnf); refine ⟨rfl, rfl, ?_, ?_, ?_, ?_⟩)); iterate 3 (focus ((repeat' apply And.intro) <;> first | exact trivial | (intro i _; rw [Nat.zero_add]; exact A.sim.refl _) | with_reducible exact rfl | exact fun _ _ => A.sim.refl _ | exact A.sim.refl _ | exact rfl | exact Nat.le_refl _ | omega | exact fun i _ => shift_sim _ _ i | exact fun _ _ => trivial | exact fun _ h => absurd h (Nat.not_lt_zero _) | (refine sim_lit ?_; (repeat' apply And.intro) <;> first | exact trivial | exact rfl))); (conv => whnf))
    | ((first | (refine D.callA (c2) rfl rfl rfl rfl hΓ rfl ?_; (conv => whnf); refine ⟨rfl, rfl, rfl, ?_, ?_, ?_, ?_⟩) | (refine W.callA (c2) rfl rfl rfl rfl hΓ rfl ?_; (conv => whnf); refine ⟨rfl, rfl, ?_, ?_, ?_, ?_⟩)); iterate 3 (focus ((repeat' apply And.intro) <;> first | exact trivial | (intro i _; rw [Nat.zero_add]; exact A.sim.refl _) | with_reducible exact rfl | exact fun _ _ => A.sim.refl _ | exact A.sim.refl _ | exact rfl | exact Nat.le_refl _ | omega | exact fun i _ => shift_sim _ _ i | exact fun _ _ => trivial | exact fun _ h => absurd h (Nat.not_lt_zero _) | (refine sim_lit ?_; (repeat' apply And.intro) <;> first | exact trivial | exact rfl))); (conv => whnf))
    | (refine W.go TOK 88 hΓ 1000 rfl ?_; (conv => whnf); refine ⟨?_, ?_⟩)
    | (refine D.go TOK 88 hΓ 1000 rfl ?_; (conv => whnf); refine ⟨?_, ?_⟩)
    | (refine W.drawn rfl rfl ?_; refine D.run TOK 88 hΓ 1000 ?_; (conv => whnf); refine ⟨?_, ?_⟩)
  all_goals (repeat' apply And.intro)
  all_goals try (first
    | exact trivial
    | exact rfl
    | exact fun _ _ => A.sim.refl _
    | exact A.sim.refl _
    | exact Nat.le_refl _
    | omega
    | exact fun _ _ => trivial
    | exact fun i _ => shift_sim _ _ i
    | exact fun _ h => absurd h (Nat.not_lt_zero _)
    | exact fun i _ => isInt_byteAt _ i
    | (simp only [allP, List.nil_append, List.append_nil, List.cons_append, List.append_eq, and_true, true_and, inr_i64, inr_u8, inr_u64, min_i64, max_i64, min_u64, max_u64, min_u8, max_u8, A.purePL, A.pureP, A.sureP, A.surePL, Int.toNat_natCast, Int.reduceToNat, addI, cHi, cLo, hiN, loN, subO, addO, hasIdx, cond_true, cond_false]; first | done | omega | ((repeat' apply And.intro) <;> first | exact trivial | rfl | omega | decide))
    )
  refine W.loopA (Nat × DK.D) (FailJ k l) (fun x => l.length - x.1) (fun x => [(5, .ptr 700 []), (7, .int .i64 (x.1 : Nat))]) (fun x => diskR 700 701 702 703 704 705 706 x.2) [] ((0, (⟨⟨[], [[120, 121]]⟩, ⟨[], []⟩, ⟨[], []⟩, 1048576, (k : Int)⟩ : DK.D))) (⟨Nat.zero_le _, by rw [if_pos (Nat.zero_le _)]; simp, rfl, Nat.le_refl _, Nat.le_refl _, rfl, rfl, rfl, rfl⟩) ?_
  (conv => whnf); refine ⟨?_, ?_⟩; focus ((conv => whnf); refine ⟨rfl, rfl, rfl, rfl, rfl, rfl, ?_, ?_⟩; iterate 2 (focus ((repeat' apply And.intro) <;> first | exact trivial | (intro i _; rw [Nat.zero_add]; exact A.sim.refl _) | with_reducible exact rfl | exact fun _ _ => A.sim.refl _ | exact A.sim.refl _ | exact rfl | exact Nat.le_refl _ | omega | exact fun i _ => shift_sim _ _ i | exact fun _ _ => trivial | exact fun _ h => absurd h (Nat.not_lt_zero _) | exact ⟨rfl, rfl⟩)))
  rintro x hJ ih
  have hl30 : l.length ≤ 30 := by omega
  have hok := hJ.ok (by omega) hl30
  have hi := hJ.i
  have hJb := hJ.b
  by_cases hil : x.1 < l.length
  · have q8 := (l.getD x.1 0).toNat_lt
    repeat' first
      | assumption
      | exact Bool.noConfusion hb
      | exact absurd hb (by decide)
      | (exfalso; omega)
      | (exfalso; simp at hb; done)
      | (refine W.retY Ts13OK rfl rfl ⟨?_, ?_⟩)
      | (refine W.branch rfl (fun hb => ?_) (fun hb => ?_) <;> ((try simp only [decide_eq_true_eq, decide_eq_false_iff_not, Bool.not_eq_true', Bool.not_eq_false', Int.not_lt, Int.not_le, cond_true, cond_false, reduceCtorEq, Int.toNat_natCast, Int.reduceToNat, addI] at hb); (try replace hb := of_decide_eq_true hb); (try replace hb := of_decide_eq_false hb)))
      | (refine D.branch rfl (fun hb => ?_) (fun hb => ?_) <;> ((try simp only [decide_eq_true_eq, decide_eq_false_iff_not, Bool.not_eq_true', Bool.not_eq_false', Int.not_lt, Int.not_le, cond_true, cond_false, reduceCtorEq, Int.toNat_natCast, Int.reduceToNat, addI] at hb); (try replace hb := of_decide_eq_true hb); (try replace hb := of_decide_eq_false hb)))
      | (refine D.callAR (read_does x.2 0 hok) rfl rfl rfl rfl hΓ rfl ?_; (conv => whnf); refine ⟨rfl, rfl, rfl, rfl, ?_, ?_, ?_, ?_, ?_⟩; iterate 4 (focus ((repeat' apply And.intro) <;> first | exact trivial | (intro i _; rw [Nat.zero_add]; exact A.sim.refl _) | with_reducible exact rfl | exact fun _ _ => A.sim.refl _ | exact A.sim.refl _ | exact rfl | exact Nat.le_refl _ | omega | exact fun i _ => shift_sim _ _ i | exact fun _ _ => trivial | exact fun _ h => absurd h (Nat.not_lt_zero _) | exact ⟨rfl, rfl⟩)); (conv => whnf))
      | (refine W.callA (read_does x.2 0 hok) rfl rfl rfl rfl hΓ rfl ?_; (conv => whnf); refine ⟨rfl, rfl, ?_, ?_, ?_, ?_⟩; iterate 3 (focus ((repeat' apply And.intro) <;> first | exact trivial | (intro i _; rw [Nat.zero_add]; exact A.sim.refl _) | with_reducible exact rfl | exact fun _ _ => A.sim.refl _ | exact A.sim.refl _ | exact rfl | exact Nat.le_refl _ | omega | exact fun i _ => shift_sim _ _ i | exact fun _ _ => trivial | exact fun _ h => absurd h (Nat.not_lt_zero _) | exact ⟨rfl, rfl⟩)); (conv => whnf))
      | (refine D.callAR (sure_does x.2 0) rfl rfl rfl rfl hΓ rfl ?_; (conv => whnf); refine ⟨rfl, rfl, rfl, rfl, ?_, ?_, ?_, ?_, ?_⟩; iterate 4 (focus ((repeat' apply And.intro) <;> first | exact trivial | (intro i _; rw [Nat.zero_add]; exact A.sim.refl _) | with_reducible exact rfl | exact fun _ _ => A.sim.refl _ | exact A.sim.refl _ | exact rfl | exact Nat.le_refl _ | omega | exact fun i _ => shift_sim _ _ i | exact fun _ _ => trivial | exact fun _ h => absurd h (Nat.not_lt_zero _) | exact ⟨rfl, rfl⟩)); (conv => whnf))
      | (refine W.callA (sure_does x.2 0) rfl rfl rfl rfl hΓ rfl ?_; (conv => whnf); refine ⟨rfl, rfl, ?_, ?_, ?_, ?_⟩; iterate 3 (focus ((repeat' apply And.intro) <;> first | exact trivial | (intro i _; rw [Nat.zero_add]; exact A.sim.refl _) | with_reducible exact rfl | exact fun _ _ => A.sim.refl _ | exact A.sim.refl _ | exact rfl | exact Nat.le_refl _ | omega | exact fun i _ => shift_sim _ _ i | exact fun _ _ => trivial | exact fun _ h => absurd h (Nat.not_lt_zero _) | exact ⟨rfl, rfl⟩)); (conv => whnf))
      | (refine W.go Ts13OK 88 hΓ 1000 rfl ?_; (conv => whnf); refine ⟨?_, ?_⟩)
      | (refine D.go Ts13OK 88 hΓ 1000 rfl ?_; (conv => whnf); refine ⟨?_, ?_⟩)
      | (refine W.drawn rfl rfl ?_; refine D.run Ts13OK 88 hΓ 1000 ?_; (conv => whnf); refine ⟨?_, ?_⟩)
    all_goals (repeat' apply And.intro)
    all_goals try (first
      | exact trivial
      | exact rfl
      | exact fun _ _ => A.sim.refl _
      | exact A.sim.refl _
      | exact Nat.le_refl _
      | omega
      | exact fun _ _ => trivial
      | exact fun i _ => shift_sim _ _ i
      | exact fun _ h => absurd h (Nat.not_lt_zero _)
      | exact fun i _ => isInt_byteAt _ i
      | (intro i _; exact isInt_byteAt _ _)
      | (simp only [allP, List.nil_append, List.append_nil, List.cons_append, List.append_eq, and_true, true_and, inr_i64, inr_u8, inr_u64, min_i64, max_i64, min_u64, max_u64, min_u8, max_u8, A.purePL, A.pureP, A.sureP, A.surePL, Int.toNat_natCast, Int.reduceToNat, addI, cHi, cLo, hiN, loN, subO, addO, hasIdx, cond_true, cond_false]; first | done | omega | ((repeat' apply And.intro) <;> first | exact trivial | rfl | omega | decide))
      )
    refine W.seeA ([(8, .str x.2.f0.b)]) (diskR 700 701 702 703 704 705 706 x.2) [] ?_
    (conv => whnf); refine ⟨?_, ?_⟩; focus ((conv => whnf); refine ⟨rfl, rfl, rfl, rfl, rfl, rfl, ?_, ?_⟩; iterate 2 (focus ((repeat' apply And.intro) <;> first | exact trivial | (intro i _; rw [Nat.zero_add]; exact A.sim.refl _) | with_reducible exact rfl | exact fun _ _ => A.sim.refl _ | exact A.sim.refl _ | exact rfl | exact Nat.le_refl _ | omega | exact fun i _ => shift_sim _ _ i | exact fun _ _ => trivial | exact fun _ h => absurd h (Nat.not_lt_zero _) | exact bytes_fun (l := x.2.f0.b) rfl)))
    have h3 : (l.getD x.1 0).toNat % 3 = 0 ∨ (l.getD x.1 0).toNat % 3 = 1 ∨ (l.getD x.1 0).toNat % 3 = 2 := by omega
    rcases h3 with hw | hw | hw
    · -- 0
      by_cases hik : x.1 = k
      · have hfb : DK.failB x.2 = true := by rw [hJ.fb, decide_eq_true hik]
        have hcd : decide ((x.1 : Int) = IntKind.i64.wrap ((n.toNat : Int) % 20)) = true := decide_eq_true (by rw [hkw]; omega)
        have ca := append_does x.2 0 [97] hok (by decide)
        rw [show DK.appE x.2 0 [97] = 32 from (if_neg (by decide)).trans (if_pos hfb), show DK.appD x.2 0 [97] = DK.set (DK.failD x.2) 0 x.2.f0 from (if_neg (by decide)).trans (if_pos hfb)] at ca
        have hJ2 := hJ.next hil x.2.f0 (Nat.le_succ _) (Nat.le_succ _)
        repeat' first
          | assumption
          | exact Bool.noConfusion hb
          | exact absurd hb (by decide)
          | (exfalso; omega)
          | exact absurd hcd.symm hb
          | exact absurd (hb.symm.trans hcd) (by decide)
          | exact absurd rfl hb
          | exact absurd (bytes_fun (l := x.2.f0.b) rfl) hb
          | (exfalso; simp at hb; done)
          | (refine W.toA (ih (x.1 + 1, DK.set (DK.failD x.2) 0 x.2.f0) ?_ ?_) ?_; rotate_left 2; (conv => whnf); refine ⟨rfl, rfl, rfl, rfl, rfl, rfl, ?_, ?_⟩; iterate 2 (focus ((repeat' apply And.intro) <;> first | exact trivial | (intro i _; rw [Nat.zero_add]; exact A.sim.refl _) | with_reducible exact rfl | exact fun _ _ => A.sim.refl _ | exact A.sim.refl _ | exact rfl | exact Nat.le_refl _ | omega | exact fun i _ => shift_sim _ _ i | exact fun _ _ => trivial | exact fun _ h => absurd h (Nat.not_lt_zero _) | (refine sim_lit ?_; (repeat' apply And.intro) <;> first | exact trivial | exact rfl) | exact ⟨rfl, rfl⟩)))
          | (refine W.retY TOK rfl rfl ⟨?_, ?_⟩)
          | (refine W.branch rfl (fun hb => ?_) (fun hb => ?_) <;> ((try simp only [decide_eq_true_eq, decide_eq_false_iff_not, Bool.not_eq_true', Bool.not_eq_false', Int.not_lt, Int.not_le, cond_true, cond_false, reduceCtorEq, Int.toNat_natCast, Int.reduceToNat, addI] at hb); (try replace hb := of_decide_eq_true hb); (try replace hb := of_decide_eq_false hb)))
          | (refine D.branch rfl (fun hb => ?_) (fun hb => ?_) <;> ((try simp only [decide_eq_true_eq, decide_eq_false_iff_not, Bool.not_eq_true', Bool.not_eq_false', Int.not_lt, Int.not_le, cond_true, cond_false, reduceCtorEq, Int.toNat_natCast, Int.reduceToNat, addI] at hb); (try replace hb := of_decide_eq_true hb); (try replace hb := of_decide_eq_false hb)))
          | ((first | (refine D.callA (ca) rfl rfl rfl rfl hΓ rfl ?_; (conv => whnf); refine ⟨rfl, rfl, rfl, ?_, ?_, ?_, ?_⟩) | (refine W.callA (ca) rfl rfl rfl rfl hΓ rfl ?_; (conv => whnf); refine ⟨rfl, rfl, ?_, ?_, ?_, ?_⟩)); iterate 3 (focus ((repeat' apply And.intro) <;> first | exact trivial | (intro i _; rw [Nat.zero_add]; exact A.sim.refl _) | with_reducible exact rfl | exact fun _ _ => A.sim.refl _ | exact A.sim.refl _ | exact rfl | exact Nat.le_refl _ | omega | exact fun i _ => shift_sim _ _ i | exact fun _ _ => trivial | exact fun _ h => absurd h (Nat.not_lt_zero _) | (refine sim_lit ?_; (repeat' apply And.intro) <;> first | exact trivial | exact rfl) | exact ⟨rfl, rfl⟩)); (conv => whnf))
          | ((first | (refine D.callA (read_does (DK.set (DK.failD x.2) 0 x.2.f0) 0 (hJ2.ok (by omega) hl30)) rfl rfl rfl rfl hΓ rfl ?_; (conv => whnf); refine ⟨rfl, rfl, rfl, ?_, ?_, ?_, ?_⟩) | (refine W.callA (read_does (DK.set (DK.failD x.2) 0 x.2.f0) 0 (hJ2.ok (by omega) hl30)) rfl rfl rfl rfl hΓ rfl ?_; (conv => whnf); refine ⟨rfl, rfl, ?_, ?_, ?_, ?_⟩)); iterate 3 (focus ((repeat' apply And.intro) <;> first | exact trivial | (intro i _; rw [Nat.zero_add]; exact A.sim.refl _) | with_reducible exact rfl | exact fun _ _ => A.sim.refl _ | exact A.sim.refl _ | exact rfl | exact Nat.le_refl _ | omega | exact fun i _ => shift_sim _ _ i | exact fun _ _ => trivial | exact fun _ h => absurd h (Nat.not_lt_zero _) | (refine sim_lit ?_; (repeat' apply And.intro) <;> first | exact trivial | exact rfl) | exact ⟨rfl, rfl⟩)); (conv => whnf))
          | ((first | (refine D.callA (sure_does (DK.set (DK.failD x.2) 0 x.2.f0) 0) rfl rfl rfl rfl hΓ rfl ?_; (conv => whnf); refine ⟨rfl, rfl, rfl, ?_, ?_, ?_, ?_⟩) | (refine W.callA (sure_does (DK.set (DK.failD x.2) 0 x.2.f0) 0) rfl rfl rfl rfl hΓ rfl ?_; (conv => whnf); refine ⟨rfl, rfl, ?_, ?_, ?_, ?_⟩)); iterate 3 (focus ((repeat' apply And.intro) <;> first | exact trivial | (intro i _; rw [Nat.zero_add]; exact A.sim.refl _) | with_reducible exact rfl | exact fun _ _ => A.sim.refl _ | exact A.sim.refl _ | exact rfl | exact Nat.le_refl _ | omega | exact fun i _ => shift_sim _ _ i | exact fun _ _ => trivial | exact fun _ h => absurd h (Nat.not_lt_zero _) | (refine sim_lit ?_; (repeat' apply And.intro) <;> first | exact trivial | exact rfl) | exact ⟨rfl, rfl⟩)); (conv => whnf))
          | (refine W.go TOK 88 hΓ 1000 rfl ?_; (conv => whnf); refine ⟨?_, ?_⟩)
          | (refine D.go TOK 88 hΓ 1000 rfl ?_; (conv => whnf); refine ⟨?_, ?_⟩)
          | (refine W.drawn rfl rfl ?_; refine D.run TOK 88 hΓ 1000 ?_; (conv => whnf); refine ⟨?_, ?_⟩)
        all_goals (repeat' apply And.intro)
        all_goals try (first
          | exact trivial
          | exact rfl
          | exact fun _ _ => A.sim.refl _
          | exact A.sim.refl _
          | exact Nat.le_refl _
          | omega
          | exact fun _ _ => trivial
          | exact fun i _ => shift_sim _ _ i
          | exact fun _ h => absurd h (Nat.not_lt_zero _)
          | exact fun i _ => isInt_byteAt _ i
          | (intro i _; exact isInt_byteAt _ _)
          | (simp only [allP, List.nil_append, List.append_nil, List.cons_append, List.append_eq, and_true, true_and, inr_i64, inr_u8, inr_u64, min_i64, max_i64, min_u64, max_u64, min_u8, max_u8, A.purePL, A.pureP, A.sureP, A.surePL, Int.toNat_natCast, Int.reduceToNat, addI, cHi, cLo, hiN, loN, subO, addO, hasIdx, cond_true, cond_false]; first | done | omega | ((repeat' apply And.intro) <;> first | exact trivial | rfl | omega | decide))
          )
      · have hfb : ¬ DK.failB x.2 = true := by rw [hJ.fb, decide_eq_false hik]; decide
        have hcd : decide ((x.1 : Int) = IntKind.i64.wrap ((n.toNat : Int) % 20)) = false := decide_eq_false (by rw [hkw]; omega)
        have ca := append_does x.2 0 [97] hok (by decide)
        have hus : ¬ x.2.room - (DK.used x.2 : Int) < ([97] : List UInt8).length := by have := hJ.rm; have := hJ.b; have := hJ.b1; have := hJ.b2; unfold DK.used; simp only [List.length_cons, List.length_nil]; omega
        rw [show DK.appE x.2 0 [97] = 0 from (if_neg (by decide)).trans ((if_neg hfb).trans (if_neg hus)), show DK.appD x.2 0 [97] = DK.set (DK.failD x.2) 0 (DK.appF x.2.f0 [97]) from (if_neg (by decide)).trans ((if_neg hfb).trans (if_neg hus))] at ca
        have hJ2 := hJ.next hil (DK.appF x.2.f0 [97]) (by rw [DK.appF_len]; exact Nat.le_refl _) (by simp [DK.appF])
        repeat' first
          | assumption
          | exact Bool.noConfusion hb
          | exact absurd hb (by decide)
          | (exfalso; omega)
          | exact absurd hcd.symm hb
          | exact absurd (hb.symm.trans hcd) (by decide)
          | exact absurd rfl hb
          | exact absurd (bytes_fun (l := x.2.f0.b) rfl) hb
          | (exfalso; simp at hb; done)
          | (refine W.toA (ih (x.1 + 1, DK.set (DK.failD x.2) 0 (DK.appF x.2.f0 [97])) ?_ ?_) ?_; rotate_left 2; (conv => whnf); refine ⟨rfl, rfl, rfl, rfl, rfl, rfl, ?_, ?_⟩; iterate 2 (focus ((repeat' apply And.intro) <;> first | exact trivial | (intro i _; rw [Nat.zero_add]; exact A.sim.refl _) | with_reducible exact rfl | exact fun _ _ => A.sim.refl _ | exact A.sim.refl _ | exact rfl | exact Nat.le_refl _ | omega | exact fun i _ => shift_sim _ _ i | exact fun _ _ => trivial | exact fun _ h => absurd h (Nat.not_lt_zero _) | (refine sim_lit ?_; (repeat' apply And.intro) <;> first | exact trivial | exact rfl) | exact ⟨rfl, rfl⟩)))
          | (refine W.retY TOK rfl rfl ⟨?_, ?_⟩)
          | (refine W.branch rfl (fun hb => ?_) (fun hb => ?_) <;> ((try simp only [decide_eq_true_eq, decide_eq_false_iff_not, Bool.not_eq_true', Bool.not_eq_false', Int.not_lt, Int.not_le, cond_true, cond_false, reduceCtorEq, Int.toNat_natCast, Int.reduceToNat, addI] at hb); (try replace hb := of_decide_eq_true hb); (try replace hb := of_decide_eq_false hb)))
          | (refine D.branch rfl (fun hb => ?_) (fun hb => ?_) <;> ((try simp only [decide_eq_true_eq, decide_eq_false_iff_not, Bool.not_eq_true', Bool.not_eq_false', Int.not_lt, Int.not_le, cond_true, cond_false, reduceCtorEq, Int.toNat_natCast, Int.reduceToNat, addI] at hb); (try replace hb := of_decide_eq_true hb); (try replace hb := of_decide_eq_false hb)))
          | ((first | (refine D.callA (ca) rfl rfl rfl rfl hΓ rfl ?_; (conv => whnf); refine ⟨rfl, rfl, rfl, ?_, ?_, ?_, ?_⟩) | (refine W.callA (ca) rfl rfl rfl rfl hΓ rfl ?_; (conv => whnf); refine ⟨rfl, rfl, ?_, ?_, ?_, ?_⟩)); iterate 3 (focus ((repeat' apply And.intro) <;> first | exact trivial | (intro i _; rw [Nat.zero_add]; exact A.sim.refl _) | with_reducible exact rfl | exact fun _ _ => A.sim.refl _ | exact A.sim.refl _ | exact rfl | exact Nat.le_refl _ | omega | exact fun i _ => shift_sim _ _ i | exact fun _ _ => trivial | exact fun _ h => absurd h (Nat.not_lt_zero _) | (refine sim_lit ?_; (repeat' apply And.intro) <;> first | exact trivial | exact rfl) | exact ⟨rfl, rfl⟩)); (conv => whnf))
          | (refine W.go TOK 88 hΓ 1000 rfl ?_; (conv => whnf); refine ⟨?_, ?_⟩)
          | (refine D.go TOK 88 hΓ 1000 rfl ?_; (conv => whnf); refine ⟨?_, ?_⟩)
          | (refine W.drawn rfl rfl ?_; refine D.run TOK 88 hΓ 1000 ?_; (conv => whnf); refine ⟨?_, ?_⟩)
        all_goals (repeat' apply And.intro)
        all_goals try (first
          | exact trivial
          | exact rfl
          | exact fun _ _ => A.sim.refl _
          | exact A.sim.refl _
          | exact Nat.le_refl _
          | omega
          | exact fun _ _ => trivial
          | exact fun i _ => shift_sim _ _ i
          | exact fun _ h => absurd h (Nat.not_lt_zero _)
          | exact fun i _ => isInt_byteAt _ i
          | (intro i _; exact isInt_byteAt _ _)
          | (simp only [allP, List.nil_append, List.append_nil, List.cons_append, List.append_eq, and_true, true_and, inr_i64, inr_u8, inr_u64, min_i64, max_i64, min_u64, max_u64, min_u8, max_u8, A.purePL, A.pureP, A.sureP, A.surePL, Int.toNat_natCast, Int.reduceToNat, addI, cHi, cLo, hiN, loN, subO, addO, hasIdx, cond_true, cond_false]; first | done | omega | ((repeat' apply And.intro) <;> first | exact trivial | rfl | omega | decide))
          )
    · -- 1
      by_cases hik : x.1 = k
      · have hfb : DK.failB x.2 = true := by rw [hJ.fb, decide_eq_true hik]
        have hcd : decide ((x.1 : Int) = IntKind.i64.wrap ((n.toNat : Int) % 20)) = true := decide_eq_true (by rw [hkw]; omega)
        have ca := sync_does x.2 0 hok
        rw [show DK.syncE x.2 0 = 32 from (if_neg (by decide)).trans (if_pos hfb), show DK.syncD x.2 0 = DK.set (DK.failD x.2) 0 x.2.f0 from (if_neg (by decide)).trans (if_pos hfb)] at ca
        have hJ2 := hJ.next hil x.2.f0 (Nat.le_succ _) (Nat.le_succ _)
        repeat' first
          | assumption
          | exact Bool.noConfusion hb
          | exact absurd hb (by decide)
          | (exfalso; omega)
          | exact absurd hcd.symm hb
          | exact absurd (hb.symm.trans hcd) (by decide)
          | exact absurd rfl hb
          | exact absurd (bytes_fun (l := x.2.f0.b) rfl) hb
          | (exfalso; simp at hb; done)
          | (refine W.toA (ih (x.1 + 1, DK.set (DK.failD x.2) 0 x.2.f0) ?_ ?_) ?_; rotate_left 2; (conv => whnf); refine ⟨rfl, rfl, rfl, rfl, rfl, rfl, ?_, ?_⟩; iterate 2 (focus ((repeat' apply And.intro) <;> first | exact trivial | (intro i _; rw [Nat.zero_add]; exact A.sim.refl _) | with_reducible exact rfl | exact fun _ _ => A.sim.refl _ | exact A.sim.refl _ | exact rfl | exact Nat.le_refl _ | omega | exact fun i _ => shift_sim _ _ i | exact fun _ _ => trivial | exact fun _ h => absurd h (Nat.not_lt_zero _) | (refine sim_lit ?_; (repeat' apply And.intro) <;> first | exact trivial | exact rfl) | exact ⟨rfl, rfl⟩)))
          | (refine W.retY TOK rfl rfl ⟨?_, ?_⟩)
          | (refine W.branch rfl (fun hb => ?_) (fun hb => ?_) <;> ((try simp only [decide_eq_true_eq, decide_eq_false_iff_not, Bool.not_eq_true', Bool.not_eq_false', Int.not_lt, Int.not_le, cond_true, cond_false, reduceCtorEq, Int.toNat_natCast, Int.reduceToNat, addI] at hb); (try replace hb := of_decide_eq_true hb); (try replace hb := of_decide_eq_false hb)))
          | (refine D.branch rfl (fun hb => ?_) (fun hb => ?_) <;> ((try simp only [decide_eq_true_eq, decide_eq_false_iff_not, Bool.not_eq_true', Bool.not_eq_false', Int.not_lt, Int.not_le, cond_true, cond_false, reduceCtorEq, Int.toNat_natCast, Int.reduceToNat, addI] at hb); (try replace hb := of_decide_eq_true hb); (try replace hb := of_decide_eq_false hb)))
          | ((first | (refine D.callA (ca) rfl rfl rfl rfl hΓ rfl ?_; (conv => whnf); refine ⟨rfl, rfl, rfl, ?_, ?_, ?_, ?_⟩) | (refine W.callA (ca) rfl rfl rfl rfl hΓ rfl ?_; (conv => whnf); refine ⟨rfl, rfl, ?_, ?_, ?_, ?_⟩)); iterate 3 (focus ((repeat' apply And.intro) <;> first | exact trivial | (intro i _; rw [Nat.zero_add]; exact A.sim.refl _) | with_reducible exact rfl | exact fun _ _ => A.sim.refl _ | exact A.sim.refl _ | exact rfl | exact Nat.le_refl _ | omega | exact fun i _ => shift_sim _ _ i | exact fun _ _ => trivial | exact fun _ h => absurd h (Nat.not_lt_zero _) | (refine sim_lit ?_; (repeat' apply And.intro) <;> first | exact trivial | exact rfl) | exact ⟨rfl, rfl⟩)); (conv => whnf))
          | ((first | (refine D.callA (read_does (DK.set (DK.failD x.2) 0 x.2.f0) 0 (hJ2.ok (by omega) hl30)) rfl rfl rfl rfl hΓ rfl ?_; (conv => whnf); refine ⟨rfl, rfl, rfl, ?_, ?_, ?_, ?_⟩) | (refine W.callA (read_does (DK.set (DK.failD x.2) 0 x.2.f0) 0 (hJ2.ok (by omega) hl30)) rfl rfl rfl rfl hΓ rfl ?_; (conv => whnf); refine ⟨rfl, rfl, ?_, ?_, ?_, ?_⟩)); iterate 3 (focus ((repeat' apply And.intro) <;> first | exact trivial | (intro i _; rw [Nat.zero_add]; exact A.sim.refl _) | with_reducible exact rfl | exact fun _ _ => A.sim.refl _ | exact A.sim.refl _ | exact rfl | exact Nat.le_refl _ | omega | exact fun i _ => shift_sim _ _ i | exact fun _ _ => trivial | exact fun _ h => absurd h (Nat.not_lt_zero _) | (refine sim_lit ?_; (repeat' apply And.intro) <;> first | exact trivial | exact rfl) | exact ⟨rfl, rfl⟩)); (conv => whnf))
          | ((first | (refine D.callA (sure_does (DK.set (DK.failD x.2) 0 x.2.f0) 0) rfl rfl rfl rfl hΓ rfl ?_; (conv => whnf); refine ⟨rfl, rfl, rfl, ?_, ?_, ?_, ?_⟩) | (refine W.callA (sure_does (DK.set (DK.failD x.2) 0 x.2.f0) 0) rfl rfl rfl rfl hΓ rfl ?_; (conv => whnf); refine ⟨rfl, rfl, ?_, ?_, ?_, ?_⟩)); iterate 3 (focus ((repeat' apply And.intro) <;> first | exact trivial | (intro i _; rw [Nat.zero_add]; exact A.sim.refl _) | with_reducible exact rfl | exact fun _ _ => A.sim.refl _ | exact A.sim.refl _ | exact rfl | exact Nat.le_refl _ | omega | exact fun i _ => shift_sim _ _ i | exact fun _ _ => trivial | exact fun _ h => absurd h (Nat.not_lt_zero _) | (refine sim_lit ?_; (repeat' apply And.intro) <;> first | exact trivial | exact rfl) | exact ⟨rfl, rfl⟩)); (conv => whnf))
          | (refine W.go TOK 88 hΓ 1000 rfl ?_; (conv => whnf); refine ⟨?_, ?_⟩)
          | (refine D.go TOK 88 hΓ 1000 rfl ?_; (conv => whnf); refine ⟨?_, ?_⟩)
          | (refine W.drawn rfl rfl ?_; refine D.run TOK 88 hΓ 1000 ?_; (conv => whnf); refine ⟨?_, ?_⟩)
        all_goals (repeat' apply And.intro)
        all_goals try (first
          | exact trivial
          | exact rfl
          | exact fun _ _ => A.sim.refl _
          | exact A.sim.refl _
          | exact Nat.le_refl _
          | omega
          | exact fun _ _ => trivial
          | exact fun i _ => shift_sim _ _ i
          | exact fun _ h => absurd h (Nat.not_lt_zero _)
          | exact fun i _ => isInt_byteAt _ i
          | (intro i _; exact isInt_byteAt _ _)
          | (simp only [allP, List.nil_append, List.append_nil, List.cons_append, List.append_eq, and_true, true_and, inr_i64, inr_u8, inr_u64, min_i64, max_i64, min_u64, max_u64, min_u8, max_u8, A.purePL, A.pureP, A.sureP, A.surePL, Int.toNat_natCast, Int.reduceToNat, addI, cHi, cLo, hiN, loN, subO, addO, hasIdx, cond_true, cond_false]; first | done | omega | ((repeat' apply And.intro) <;> first | exact trivial | rfl | omega | decide))
          )
      · have hfb : ¬ DK.failB x.2 = true := by rw [hJ.fb, decide_eq_false hik]; decide
        have hcd : decide ((x.1 : Int) = IntKind.i64.wrap ((n.toNat : Int) % 20)) = false := decide_eq_false (by rw [hkw]; omega)
        have ca := sync_does x.2 0 hok
        rw [show DK.syncE x.2 0 = 0 from (if_neg (by decide)).trans (if_neg hfb), show DK.syncD x.2 0 = DK.set (DK.failD x.2) 0 (DK.syncF x.2.f0) from (if_neg (by decide)).trans (if_neg hfb)] at ca
        have hJ2 := hJ.next hil (DK.syncF x.2.f0) (by rw [sync_b]; omega) (Nat.zero_le _)
        repeat' first
          | assumption
          | exact Bool.noConfusion hb
          | exact absurd hb (by decide)
          | (exfalso; omega)
          | exact absurd hcd.symm hb
          | exact absurd (hb.symm.trans hcd) (by decide)
          | exact absurd rfl hb
          | exact absurd (bytes_fun (l := x.2.f0.b) rfl) hb
          | (exfalso; simp at hb; done)
          | (refine W.toA (ih (x.1 + 1, DK.set (DK.failD x.2) 0 (DK.syncF x.2.f0)) ?_ ?_) ?_; rotate_left 2; (conv => whnf); refine ⟨rfl, rfl, rfl, rfl, rfl, rfl, ?_, ?_⟩; iterate 2 (focus ((repeat' apply And.intro) <;> first | exact trivial | (intro i _; rw [Nat.zero_add]; exact A.sim.refl _) | with_reducible exact rfl | exact fun _ _ => A.sim.refl _ | exact A.sim.refl _ | exact rfl | exact Nat.le_refl _ | omega | exact fun i _ => shift_sim _ _ i | exact fun _ _ => trivial | exact fun _ h => absurd h (Nat.not_lt_zero _) | (refine sim_lit ?_; (repeat' apply And.intro) <;> first | exact trivial | exact rfl) | exact ⟨rfl, rfl⟩)))
          | (refine W.retY TOK rfl rfl ⟨?_, ?_⟩)
          | (refine W.branch rfl (fun hb => ?_) (fun hb => ?_) <;> ((try simp only [decide_eq_true_eq, decide_eq_false_iff_not, Bool.not_eq_true', Bool.not_eq_false', Int.not_lt, Int.not_le, cond_true, cond_false, reduceCtorEq, Int.toNat_natCast, Int.reduceToNat, addI] at hb); (try replace hb := of_decide_eq_true hb); (try replace hb := of_decide_eq_false hb)))
          | (refine D.branch rfl (fun hb => ?_) (fun hb => ?_) <;> ((try simp only [decide_eq_true_eq, decide_eq_false_iff_not, Bool.not_eq_true', Bool.not_eq_false', Int.not_lt, Int.not_le, cond_true, cond_false, reduceCtorEq, Int.toNat_natCast, Int.reduceToNat, addI] at hb); (try replace hb := of_decide_eq_true hb); (try replace hb := of_decide_eq_false hb)))
          | ((first | (refine D.callA (ca) rfl rfl rfl rfl hΓ rfl ?_; (conv => whnf); refine ⟨rfl, rfl, rfl, ?_, ?_, ?_, ?_⟩) | (refine W.callA (ca) rfl rfl rfl rfl hΓ rfl ?_; (conv => whnf); refine ⟨rfl, rfl, ?_, ?_, ?_, ?_⟩)); iterate 3 (focus ((repeat' apply And.intro) <;> first | exact trivial | (intro i _; rw [Nat.zero_add]; exact A.sim.refl _) | with_reducible exact rfl | exact fun _ _ => A.sim.refl _ | exact A.sim.refl _ | exact rfl | exact Nat.le_refl _ | omega | exact fun i _ => shift_sim _ _ i | exact fun _ _ => trivial | exact fun _ h => absurd h (Nat.not_lt_zero _) | (refine sim_lit ?_; (repeat' apply And.intro) <;> first | exact trivial | exact rfl) | exact ⟨rfl, rfl⟩)); (conv => whnf))
          | (refine W.go TOK 88 hΓ 1000 rfl ?_; (conv => whnf); refine ⟨?_, ?_⟩)
          | (refine D.go TOK 88 hΓ 1000 rfl ?_; (conv => whnf); refine ⟨?_, ?_⟩)
          | (refine W.drawn rfl rfl ?_; refine D.run TOK 88 hΓ 1000 ?_; (conv => whnf); refine ⟨?_, ?_⟩)
        all_goals (repeat' apply And.intro)
        all_goals try (first
          | exact trivial
          | exact rfl
          | exact fun _ _ => A.sim.refl _
          | exact A.sim.refl _
          | exact Nat.le_refl _
          | omega
          | exact fun _ _ => trivial
          | exact fun i _ => shift_sim _ _ i
          | exact fun _ h => absurd h (Nat.not_lt_zero _)
          | exact fun i _ => isInt_byteAt _ i
          | (intro i _; exact isInt_byteAt _ _)
          | (simp only [allP, List.nil_append, List.append_nil, List.cons_append, List.append_eq, and_true, true_and, inr_i64, inr_u8, inr_u64, min_i64, max_i64, min_u64, max_u64, min_u8, max_u8, A.purePL, A.pureP, A.sureP, A.surePL, Int.toNat_natCast, Int.reduceToNat, addI, cHi, cLo, hiN, loN, subO, addO, hasIdx, cond_true, cond_false]; first | done | omega | ((repeat' apply And.intro) <;> first | exact trivial | rfl | omega | decide))
          )
    · -- 2
      by_cases hik : x.1 = k
      · have hfb : DK.failB x.2 = true := by rw [hJ.fb, decide_eq_true hik]
        have hcd : decide ((x.1 : Int) = IntKind.i64.wrap ((n.toNat : Int) % 20)) = true := decide_eq_true (by rw [hkw]; omega)
        have hcn : ¬ ((if ((x.2.f0.b.length : Int) - 1) < 0 then 0 else ((x.2.f0.b.length : Int) - 1)) < 0 ∨ ((DK.get x.2 (0 : Int).toNat).b.length : Int) < (if ((x.2.f0.b.length : Int) - 1) < 0 then 0 else ((x.2.f0.b.length : Int) - 1))) := by show ¬ ((if ((x.2.f0.b.length : Int) - 1) < 0 then 0 else ((x.2.f0.b.length : Int) - 1)) < 0 ∨ (x.2.f0.b.length : Int) < (if ((x.2.f0.b.length : Int) - 1) < 0 then 0 else ((x.2.f0.b.length : Int) - 1))); split <;> omega
        have ca := cut_does x.2 0 (if ((x.2.f0.b.length : Int) - 1) < 0 then 0 else ((x.2.f0.b.length : Int) - 1)) hok
        rw [show DK.cutE x.2 0 (if ((x.2.f0.b.length : Int) - 1) < 0 then 0 else ((x.2.f0.b.length : Int) - 1)) = 32 from (if_neg (by decide)).trans ((if_neg hcn).trans (if_pos hfb)), show DK.cutD x.2 0 (if ((x.2.f0.b.length : Int) - 1) < 0 then 0 else ((x.2.f0.b.length : Int) - 1)) = DK.set (DK.failD x.2) 0 x.2.f0 from (if_neg (by decide)).trans ((if_neg hcn).trans (if_pos hfb))] at ca
        have hJ2 := hJ.next hil x.2.f0 (Nat.le_succ _) (Nat.le_succ _)
        repeat' first
          | assumption
          | exact Bool.noConfusion hb
          | exact absurd hb (by decide)
          | (exfalso; omega)
          | exact absurd hcd.symm hb
          | exact absurd (hb.symm.trans hcd) (by decide)
          | exact absurd rfl hb
          | exact absurd (bytes_fun (l := x.2.f0.b) rfl) hb
          | (exfalso; simp at hb; done)
          | (refine W.toA (ih (x.1 + 1, DK.set (DK.failD x.2) 0 x.2.f0) ?_ ?_) ?_; rotate_left 2; (conv => whnf); refine ⟨rfl, rfl, rfl, rfl, rfl, rfl, ?_, ?_⟩; iterate 2 (focus ((repeat' apply And.intro) <;> first | exact trivial | (intro i _; rw [Nat.zero_add]; exact A.sim.refl _) | with_reducible exact rfl | exact fun _ _ => A.sim.refl _ | exact A.sim.refl _ | exact rfl | exact Nat.le_refl _ | omega | exact fun i _ => shift_sim _ _ i | exact fun _ _ => trivial | exact fun _ h => absurd h (Nat.not_lt_zero _) | (refine sim_lit ?_; (repeat' apply And.intro) <;> first | exact trivial | exact rfl) | exact ⟨rfl, rfl⟩)))
          | (refine W.retY TOK rfl rfl ⟨?_, ?_⟩)
          | (refine W.branch rfl (fun hb => ?_) (fun hb => ?_) <;> ((try simp only [decide_eq_true_eq, decide_eq_false_iff_not, Bool.not_eq_true', Bool.not_eq_false', Int.not_lt, Int.not_le, cond_true, cond_false, reduceCtorEq, Int.toNat_natCast, Int.reduceToNat, addI] at hb); (try replace hb := of_decide_eq_true hb); (try replace hb := of_decide_eq_false hb)))
          | (refine D.branch rfl (fun hb => ?_) (fun hb => ?_) <;> ((try simp only [decide_eq_true_eq, decide_eq_false_iff_not, Bool.not_eq_true', Bool.not_eq_false', Int.not_lt, Int.not_le, cond_true, cond_false, reduceCtorEq, Int.toNat_natCast, Int.reduceToNat, addI] at hb); (try replace hb := of_decide_eq_true hb); (try replace hb := of_decide_eq_false hb)))
          | ((first | (refine D.callA (ca) rfl rfl rfl rfl hΓ rfl ?_; (conv => whnf); refine ⟨rfl, rfl, rfl, ?_, ?_, ?_, ?_⟩) | (refine W.callA (ca) rfl rfl rfl rfl hΓ rfl ?_; (conv => whnf); refine ⟨rfl, rfl, ?_, ?_, ?_, ?_⟩)); iterate 3 (focus ((repeat' apply And.intro) <;> first | exact trivial | (intro i _; rw [Nat.zero_add]; exact A.sim.refl _) | with_reducible exact rfl | exact fun _ _ => A.sim.refl _ | exact A.sim.refl _ | exact rfl | exact Nat.le_refl _ | omega | exact fun i _ => shift_sim _ _ i | exact fun _ _ => trivial | exact fun _ h => absurd h (Nat.not_lt_zero _) | (refine sim_lit ?_; (repeat' apply And.intro) <;> first | exact trivial | exact rfl) | exact ⟨rfl, rfl⟩)); (conv => whnf))
          | ((first | (refine D.callA (read_does (DK.set (DK.failD x.2) 0 x.2.f0) 0 (hJ2.ok (by omega) hl30)) rfl rfl rfl rfl hΓ rfl ?_; (conv => whnf); refine ⟨rfl, rfl, rfl, ?_, ?_, ?_, ?_⟩) | (refine W.callA (read_does (DK.set (DK.failD x.2) 0 x.2.f0) 0 (hJ2.ok (by omega) hl30)) rfl rfl rfl rfl hΓ rfl ?_; (conv => whnf); refine ⟨rfl, rfl, ?_, ?_, ?_, ?_⟩)); iterate 3 (focus ((repeat' apply And.intro) <;> first | exact trivial | (intro i _; rw [Nat.zero_add]; exact A.sim.refl _) | with_reducible exact rfl | exact fun _ _ => A.sim.refl _ | exact A.sim.refl _ | exact rfl | exact Nat.le_refl _ | omega | exact fun i _ => shift_sim _ _ i | exact fun _ _ => trivial | exact fun _ h => absurd h (Nat.not_lt_zero _) | (refine sim_lit ?_; (repeat' apply And.intro) <;> first | exact trivial | exact rfl) | exact ⟨rfl, rfl⟩)); (conv => whnf))
          | ((first | (refine D.callA (sure_does (DK.set (DK.failD x.2) 0 x.2.f0) 0) rfl rfl rfl rfl hΓ rfl ?_; (conv => whnf); refine ⟨rfl, rfl, rfl, ?_, ?_, ?_, ?_⟩) | (refine W.callA (sure_does (DK.set (DK.failD x.2) 0 x.2.f0) 0) rfl rfl rfl rfl hΓ rfl ?_; (conv => whnf); refine ⟨rfl, rfl, ?_, ?_, ?_, ?_⟩)); iterate 3 (focus ((repeat' apply And.intro) <;> first | exact trivial | (intro i _; rw [Nat.zero_add]; exact A.sim.refl _) | with_reducible exact rfl | exact fun _ _ => A.sim.refl _ | exact A.sim.refl _ | exact rfl | exact Nat.le_refl _ | omega | exact fun i _ => shift_sim _ _ i | exact fun _ _ => trivial | exact fun _ h => absurd h (Nat.not_lt_zero _) | (refine sim_lit ?_; (repeat' apply And.intro) <;> first | exact trivial | exact rfl) | exact ⟨rfl, rfl⟩)); (conv => whnf))
          | (refine W.go TOK 88 hΓ 1000 rfl ?_; (conv => whnf); refine ⟨?_, ?_⟩)
          | (refine D.go TOK 88 hΓ 1000 rfl ?_; (conv => whnf); refine ⟨?_, ?_⟩)
          | (refine W.drawn rfl rfl ?_; refine D.run TOK 88 hΓ 1000 ?_; (conv => whnf); refine ⟨?_, ?_⟩)
        all_goals (repeat' apply And.intro)
        all_goals try (first
          | exact trivial
          | exact rfl
          | exact fun _ _ => A.sim.refl _
          | exact A.sim.refl _
          | exact Nat.le_refl _
          | omega
          | exact fun _ _ => trivial
          | exact fun i _ => shift_sim _ _ i
          | exact fun _ h => absurd h (Nat.not_lt_zero _)
          | exact fun i _ => isInt_byteAt _ i
          | (intro i _; exact isInt_byteAt _ _)
          | (simp only [allP, List.nil_append, List.append_nil, List.cons_append, List.append_eq, and_true, true_and, inr_i64, inr_u8, inr_u64, min_i64, max_i64, min_u64, max_u64, min_u8, max_u8, A.purePL, A.pureP, A.sureP, A.surePL, Int.toNat_natCast, Int.reduceToNat, addI, cHi, cLo, hiN, loN, subO, addO, hasIdx, cond_true, cond_false]; first | done | omega | ((repeat' apply And.intro) <;> first | exact trivial | rfl | omega | decide))
          )
      · have hfb : ¬ DK.failB x.2 = true := by rw [hJ.fb, decide_eq_false hik]; decide
        have hcd : decide ((x.1 : Int) = IntKind.i64.wrap ((n.toNat : Int) % 20)) = false := decide_eq_false (by rw [hkw]; omega)
        have hcn : ¬ ((if ((x.2.f0.b.length : Int) - 1) < 0 then 0 else ((x.2.f0.b.length : Int) - 1)) < 0 ∨ ((DK.get x.2 (0 : Int).toNat).b.length : Int) < (if ((x.2.f0.b.length : Int) - 1) < 0 then 0 else ((x.2.f0.b.length : Int) - 1))) := by show ¬ ((if ((x.2.f0.b.length : Int) - 1) < 0 then 0 else ((x.2.f0.b.length : Int) - 1)) < 0 ∨ (x.2.f0.b.length : Int) < (if ((x.2.f0.b.length : Int) - 1) < 0 then 0 else ((x.2.f0.b.length : Int) - 1))); split <;> omega
        have ca := cut_does x.2 0 (if ((x.2.f0.b.length : Int) - 1) < 0 then 0 else ((x.2.f0.b.length : Int) - 1)) hok
        rw [show DK.cutE x.2 0 (if ((x.2.f0.b.length : Int) - 1) < 0 then 0 else ((x.2.f0.b.length : Int) - 1)) = 0 from (if_neg (by decide)).trans ((if_neg hcn).trans (if_neg hfb)), show DK.cutD x.2 0 (if ((x.2.f0.b.length : Int) - 1) < 0 then 0 else ((x.2.f0.b.length : Int) - 1)) = DK.set (DK.failD x.2) 0 (DK.cutF x.2.f0 ((if ((x.2.f0.b.length : Int) - 1) < 0 then 0 else ((x.2.f0.b.length : Int) - 1))).toNat) from (if_neg (by decide)).trans ((if_neg hcn).trans (if_neg hfb))] at ca
        have hJ2 := hJ.next hil (DK.cutF x.2.f0 ((if ((x.2.f0.b.length : Int) - 1) < 0 then 0 else ((x.2.f0.b.length : Int) - 1))).toNat) (by rw [DK.cutF_b, List.length_take]; omega) (cutp_le _ _)
        repeat' first
          | assumption
          | exact Bool.noConfusion hb
          | exact absurd hb (by decide)
          | (exfalso; omega)
          | exact absurd hcd.symm hb
          | exact absurd (hb.symm.trans hcd) (by decide)
          | exact absurd rfl hb
          | exact absurd (bytes_fun (l := x.2.f0.b) rfl) hb
          | (exfalso; simp at hb; done)
          | (refine W.toA (ih (x.1 + 1, DK.set (DK.failD x.2) 0 (DK.cutF x.2.f0 ((if ((x.2.f0.b.length : Int) - 1) < 0 then 0 else ((x.2.f0.b.length : Int) - 1))).toNat)) ?_ ?_) ?_; rotate_left 2; (conv => whnf); refine ⟨rfl, rfl, rfl, rfl, rfl, rfl, ?_, ?_⟩; iterate 2 (focus ((repeat' apply And.intro) <;> first | exact trivial | (intro i _; rw [Nat.zero_add]; exact A.sim.refl _) | with_reducible exact rfl | exact fun _ _ => A.sim.refl _ | exact A.sim.refl _ | exact rfl | exact Nat.le_refl _ | omega | exact fun i _ => shift_sim _ _ i | exact fun _ _ => trivial | exact fun _ h => absurd h (Nat.not_lt_zero _) | (refine sim_lit ?_; (repeat' apply And.intro) <;> first | exact trivial | exact rfl) | exact ⟨rfl, rfl⟩)))
          | (refine W.retY TOK rfl rfl ⟨?_, ?_⟩)
          | (refine W.branch rfl (fun hb => ?_) (fun hb => ?_) <;> ((try simp only [decide_eq_true_eq, decide_eq_false_iff_not, Bool.not_eq_true', Bool.not_eq_false', Int.not_lt, Int.not_le, cond_true, cond_false, reduceCtorEq, Int.toNat_natCast, Int.reduceToNat, addI] at hb); (try replace hb := of_decide_eq_true hb); (try replace hb := of_decide_eq_false hb)))
          | (refine D.branch rfl (fun hb => ?_) (fun hb => ?_) <;> ((try simp only [decide_eq_true_eq, decide_eq_false_iff_not, Bool.not_eq_true', Bool.not_eq_false', Int.not_lt, Int.not_le, cond_true, cond_false, reduceCtorEq, Int.toNat_natCast, Int.reduceToNat, addI] at hb); (try replace hb := of_decide_eq_true hb); (try replace hb := of_decide_eq_false hb)))
          | ((first | (refine D.callA (ca) rfl rfl rfl rfl hΓ rfl ?_; (conv => whnf); refine ⟨rfl, rfl, rfl, ?_, ?_, ?_, ?_⟩) | (refine W.callA (ca) rfl rfl rfl rfl hΓ rfl ?_; (conv => whnf); refine ⟨rfl, rfl, ?_, ?_, ?_, ?_⟩)); iterate 3 (focus ((repeat' apply And.intro) <;> first | exact trivial | (intro i _; rw [Nat.zero_add]; exact A.sim.refl _) | with_reducible exact rfl | exact fun _ _ => A.sim.refl _ | exact A.sim.refl _ | exact rfl | exact Nat.le_refl _ | omega | exact fun i _ => shift_sim _ _ i | exact fun _ _ => trivial | exact fun _ h => absurd h (Nat.not_lt_zero _) | (refine sim_lit ?_; (repeat' apply And.intro) <;> first | exact trivial | exact rfl) | exact ⟨rfl, rfl⟩)); (conv => whnf))
          | (refine W.go TOK 88 hΓ 1000 rfl ?_; (conv => whnf); refine ⟨?_, ?_⟩)
          | (refine D.go TOK 88 hΓ 1000 rfl ?_; (conv => whnf); refine ⟨?_, ?_⟩)
          | (refine W.drawn rfl rfl ?_; refine D.run TOK 88 hΓ 1000 ?_; (conv => whnf); refine ⟨?_, ?_⟩)
        all_goals (repeat' apply And.intro)
        all_goals try (first
          | exact trivial
          | exact rfl
          | exact fun _ _ => A.sim.refl _
          | exact A.sim.refl _
          | exact Nat.le_refl _
          | omega
          | exact fun _ _ => trivial
          | exact fun i _ => shift_sim _ _ i
          | exact fun _ h => absurd h (Nat.not_lt_zero _)
          | exact fun i _ => isInt_byteAt _ i
          | (intro i _; exact isInt_byteAt _ _)
          | (simp only [allP, List.nil_append, List.append_nil, List.cons_append, List.append_eq, and_true, true_and, inr_i64, inr_u8, inr_u64, min_i64, max_i64, min_u64, max_u64, min_u8, max_u8, A.purePL, A.pureP, A.sureP, A.surePL, Int.toNat_natCast, Int.reduceToNat, addI, cHi, cLo, hiN, loN, subO, addO, hasIdx, cond_true, cond_false]; first | done | omega | ((repeat' apply And.intro) <;> first | exact trivial | rfl | omega | decide))
          )
  · skip
    repeat' first
      | assumption
      | exact Bool.noConfusion hb
      | exact absurd hb (by decide)
      | (exfalso; omega)
      | (exfalso; simp at hb; done)
      | (refine W.retY TOK rfl rfl ⟨?_, ?_⟩)
      | (refine W.branch rfl (fun hb => ?_) (fun hb => ?_) <;> ((try simp only [decide_eq_true_eq, decide_eq_false_iff_not, Bool.not_eq_true', Bool.not_eq_false', Int.not_lt, Int.not_le, cond_true, cond_false, reduceCtorEq, Int.toNat_natCast, Int.reduceToNat, addI] at hb); (try replace hb := of_decide_eq_true hb); (try replace hb := of_decide_eq_false hb)))
      | (refine D.branch rfl (fun hb => ?_) (fun hb => ?_) <;> ((try simp only [decide_eq_true_eq, decide_eq_false_iff_not, Bool.not_eq_true', Bool.not_eq_false', Int.not_lt, Int.not_le, cond_true, cond_false, reduceCtorEq, Int.toNat_natCast, Int.reduceToNat, addI] at hb); (try replace hb := of_decide_eq_true hb); (try replace hb := of_decide_eq_false hb)))
      | (refine W.go TOK 88 hΓ 1000 rfl ?_; (conv => whnf); refine ⟨?_, ?_⟩)
      | (refine D.go TOK 88 hΓ 1000 rfl ?_; (conv => whnf); refine ⟨?_, ?_⟩)
      | (refine W.drawn rfl rfl ?_; refine D.run TOK 88 hΓ 1000 ?_; (conv => whnf); refine ⟨?_, ?_⟩)
    all_goals (repeat' apply And.intro)
    all_goals try (first
      | exact trivial
      | exact rfl
      | exact fun _ _ => A.sim.refl _
      | exact A.sim.refl _
      | exact Nat.le_refl _
      | omega
      | exact fun _ _ => trivial
      | exact fun i _ => shift_sim _ _ i
      | exact fun _ h => absurd h (Nat.not_lt_zero _)
      | exact fun i _ => isInt_byteAt _ i
      | (simp only [allP, List.nil_append, List.append_nil, List.cons_append, List.append_eq, and_true, true_and, inr_i64, inr_u8, inr_u64, min_i64, max_i64, min_u64, max_u64, min_u8, max_u8, A.purePL, A.pureP, A.sureP, A.surePL, Int.toNat_natCast, Int.reduceToNat, addI, cHi, cLo, hiN, loN, subO, addO, hasIdx, cond_true, cond_false]; first | done | omega | ((repeat' apply And.intro) <;> first | exact trivial | rfl | omega | decide))
      )

theorem diskFails_law (x0 x1 : A) (s0 : Shaped (.int .u8) x0) (s1 : Shaped (.slice (.int .u8)) x1) : Does Try.prog 4 [x0, x1] [] [] Yes := by
  obtain ⟨a0, e0, h0⟩ := Rep.byte x0 s0
  obtain ⟨a1, e1, h1⟩ := Rep.bytes x1 s1
  exact Does.args (ys := [VX.byte a0, bytesA a1]) ⟨e0, e1, trivial⟩ ⟨s0.pure, s1.pure, trivial⟩ (fails_law_does a0 a1)
end Go.Proofs.Ytiapjcncfoefeaa
