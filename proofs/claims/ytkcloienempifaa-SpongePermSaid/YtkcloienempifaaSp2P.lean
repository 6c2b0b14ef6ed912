/- Walks: the statements of layer 2. -/
import Derived.Test.YtkcloienempifaaSp2K
import Derived.Test.YtkcloienempifaaSpMore
import Derived.Test.YtkcloienempifaaSpPerm
set_option linter.unusedSimpArgs false
set_option linter.unusedVariables false
namespace Go.Proofs.Ytkcloienempifaa
open VX
set_option maxRecDepth 100000
set_option maxHeartbeats 4000000

theorem perms_does (a b : Nat → Int) (n : UInt8) (x : Int) (ha : ∀ i, inr .u64 (a i)) (hb0 : ∀ i, inr .u64 (b i)) (hx : inr .u64 x) : Does Try.prog 6 [st a, st b, VX.byte n, .int .u64 x] [] [] Yes := by
  obtain ⟨M, hM⟩ : ∃ M : Nat, M = (((n.toNat : Nat) : Int) % 5).toNat := ⟨_, rfl⟩
  have hM5 : M < 5 := by omega
  obtain ⟨cc, hcc⟩ : ∃ cc : Nat → Int, cc = fun j => if j = M then xr (a M) x else a j := ⟨_, rfl⟩
  have hcs : ∀ j, (bif Nat.beq j (((n.toNat : Nat) : Int) % 5).toNat then A.int .u64 (bitsI .xor .u64 (a (((n.toNat : Nat) : Int) % 5).toNat) x) else .int .u64 (a j)).sim (.int .u64 (cc j)) := fun j => by
    rw [← hM, hcc]
    by_cases e : j = M
    · subst e
      rw [Nat.beq_refl, cond_true]
      simp only [if_pos]
      exact .refl _
    · rw [nbeq_ne e, cond_false]
      simp only [if_neg e]
      exact .refl _
  have hci : ∀ i, inr .u64 (cc i) := fun i => by
    rw [hcc]
    simp only
    split
    · exact inr_bits _ _ _ _
    · exact ha i
  have P1 := perm_iff (fun i _ => ha i) (fun i _ => hb0 i)
  have P2 : (∀ i, i < 5 → perm a i = perm cc i) ↔ x = 0 := by
    refine (perm_iff (fun i _ => ha i) (fun i _ => hci i)).trans ⟨fun h => ?_, fun h i _ => ?_⟩
    · have := h M hM5
      rw [hcc] at this
      simp only [if_pos] at this
      exact (xr_zero (ha M) hx).1 this
    · rw [hcc]
      simp only
      split
      · rename_i e
        rw [e]
        exact (xr_zero (ha M) hx).2 h
      · rfl
  refine Does.intro (fn := Try.f6) Try.func6 rfl rfl fun Γ hΓ => ?_
  refine W.run TOK 39 hΓ 1000 ?_
  conv => whnf
  refine ⟨?_, ?_⟩
  repeat' first
    | assumption
    | exact Bool.noConfusion hb
    | exact absurd hb (by decide)
    | (exfalso; simp only [all_aeq_int] at hb; exact hb (decide_eq_decide.2 P1))
    | (apply W.atRet (π := []) (r' := []) TOK; refine ⟨rfl, rfl, rfl, rfl, rfl, ?_, ?_, ?_⟩)
    | (refine W.branch rfl (fun hb => ?_) (fun hb => ?_) <;> ((try simp only [decide_eq_true_eq, decide_eq_false_iff_not, Bool.not_eq_true', Bool.not_eq_false', Int.not_lt, Int.not_le, cond_true, cond_false, reduceCtorEq, Int.toNat_natCast, addI] at hb); (try replace hb := of_decide_eq_true hb); (try replace hb := of_decide_eq_false hb)))
    | (refine D.branch rfl (fun hb => ?_) (fun hb => ?_) <;> ((try simp only [decide_eq_true_eq, decide_eq_false_iff_not, Bool.not_eq_true', Bool.not_eq_false', Int.not_lt, Int.not_le, cond_true, cond_false, reduceCtorEq, Int.toNat_natCast, addI] at hb); (try replace hb := of_decide_eq_true hb); (try replace hb := of_decide_eq_false hb)))
    | (refine D.callF (known_does) rfl rfl rfl rfl [] [] [] rfl rfl hΓ rfl trivial trivial (.inl rfl) rfl ?_; (conv => whnf))
    | (refine W.callF (known_does) rfl rfl rfl rfl [] [] [] rfl rfl hΓ rfl trivial trivial (.inl rfl) ?_)
    | (refine D.callF (perm_does a) rfl rfl rfl rfl [] [] [] rfl rfl hΓ rfl ⟨⟨rfl, rfl, fun _ _ => A.sim.refl _⟩, trivial⟩ trivial (.inl rfl) rfl ?_; (conv => whnf))
    | (refine W.callF (perm_does a) rfl rfl rfl rfl [] [] [] rfl rfl hΓ rfl ⟨⟨rfl, rfl, fun _ _ => A.sim.refl _⟩, trivial⟩ trivial (.inl rfl) ?_)
    | (refine D.callF (perm_does b) rfl rfl rfl rfl [] [] [] rfl rfl hΓ rfl ⟨⟨rfl, rfl, fun _ _ => A.sim.refl _⟩, trivial⟩ trivial (.inl rfl) rfl ?_; (conv => whnf))
    | (refine W.callF (perm_does b) rfl rfl rfl rfl [] [] [] rfl rfl hΓ rfl ⟨⟨rfl, rfl, fun _ _ => A.sim.refl _⟩, trivial⟩ trivial (.inl rfl) ?_)
    | (refine D.callF (perm_does cc) rfl rfl rfl rfl [] [] [] rfl rfl hΓ rfl ⟨⟨rfl, rfl, fun j _ => hcs j⟩, trivial⟩ trivial (.inl rfl) rfl ?_; (conv => whnf))
    | (refine W.callF (perm_does cc) rfl rfl rfl rfl [] [] [] rfl rfl hΓ rfl ⟨⟨rfl, rfl, fun j _ => hcs j⟩, trivial⟩ trivial (.inl rfl) ?_)
    | (refine W.go TOK 39 hΓ 1000 rfl ?_; (conv => whnf); refine ⟨?_, ?_⟩)
    | (refine D.go TOK 39 hΓ 1000 rfl ?_; (conv => whnf); refine ⟨?_, ?_⟩)
    | (refine W.drawn rfl rfl ?_; refine D.run TOK 39 hΓ 1000 ?_; (conv => whnf); refine ⟨?_, ?_⟩)
  all_goals try (exact trivial)
  all_goals try (exact rfl)
  all_goals try omega
  all_goals try (first
    | (simp only [allP, List.nil_append, List.append_nil, List.cons_append, List.append_eq, and_true, true_and, inr_i64, inr_u8, inr_u64, A.purePL, A.pureP, A.sureP, A.surePL, Int.toNat_natCast, addI, cHi, cLo, hiN, loN, subO, addO, hasIdx, cond_true, cond_false]; done)
    | (simp only [allP, List.nil_append, List.append_nil, List.cons_append, List.append_eq, and_true, true_and, inr_i64, inr_u8, inr_u64, A.purePL, A.pureP, A.sureP, A.surePL, Int.toNat_natCast, addI, cHi, cLo, hiN, loN, subO, addO, hasIdx, cond_true, cond_false]; omega)
    | (simp only [allP, List.nil_append, List.append_nil, List.cons_append, List.append_eq, and_true, true_and, inr_i64, inr_u8, inr_u64, A.purePL, A.pureP, A.sureP, A.surePL, Int.toNat_natCast, addI, cHi, cLo, hiN, loN, subO, addO, hasIdx, cond_true, cond_false]; (repeat' apply And.intro) <;> first | exact trivial | rfl | omega | decide))
  all_goals try (simp only [allP, List.nil_append, List.append_nil, List.cons_append, List.append_eq, and_true, true_and, A.purePL, A.pureP, A.sureP, A.surePL, addI, shiftF]; (repeat' apply And.intro) <;> first | exact trivial | rfl | omega | exact fun i hi => ⟨⟨_, rfl⟩, ⟨_, rfl⟩⟩ | exact fun i hi => ⟨_, rfl⟩ | exact fun i hi => by match i, hi with | 0, _ | 1, _ | 2, _ | 3, _ | 4, _ => exact ⟨⟨_, rfl⟩, ⟨_, rfl⟩⟩)
  all_goals try (change _ = true; simp only [cond_true, all_aeq_int, beq_iff_eq]; exact decide_eq_decide.2 P2)
  all_goals (trace_state; sorry)

theorem spongePerm_law (x0 x1 x2 x3 : A) (s0 : Shaped (.arr 5 (.int .u64)) x0) (s1 : Shaped (.arr 5 (.int .u64)) x1) (s2 : Shaped (.int .u8) x2) (s3 : Shaped (.int .u64) x3) : Does Try.prog 6 [x0, x1, x2, x3] [] [] Yes := by
  obtain ⟨a, h0, _, ha⟩ := (Rep.arr (Rep.int .u64) 5) x0 s0
  obtain ⟨b, h1, _, hb⟩ := (Rep.arr (Rep.int .u64) 5) x1 s1
  obtain ⟨t, h2, _⟩ := Rep.byte x2 s2
  obtain ⟨x, h3, hx⟩ := (Rep.int .u64) x3 s3
  have hg : ∀ l : List Int, (∀ y ∈ l, inr .u64 y) → ∀ i, inr .u64 (l.getD i default) := fun l h i => by
    rw [List.getD_eq_getElem?_getD]
    cases e : l[i]? with
    | none => exact inr_u64.2 ⟨Int.le_refl 0, by decide⟩
    | some y => exact h y (List.mem_of_getElem? e)
  exact Does.args (ys := [st (fun i => a.getD i default), st (fun i => b.getD i default), VX.byte t, .int .u64 x]) ⟨h0, h1, h2, h3, trivial⟩ ⟨s0.pure, s1.pure, s2.pure, s3.pure, trivial⟩ (perms_does _ _ t x (hg a ha) (hg b hb) hx)
end Go.Proofs.Ytkcloienempifaa
