/- Walks: the statements of layer 2. -/
import Derived.Test.YtkcloienempifaaSp2K
set_option linter.unusedSimpArgs false
set_option linter.unusedVariables false
namespace Go.Proofs.Ytkcloienempifaa
open VX
set_option maxRecDepth 100000
set_option maxHeartbeats 4000000

def Sl1 (s : Nat → Int) (b : List UInt8) (tag : UInt8) (L : List (List UInt8)) (i : Nat) : St := ⟨[(1, bytesA b), (2, VX.byte tag), (3, sl 1 bytesA L), (4, .ptr 4 []), (9, .int .i64 i)], [(4, some (.var (st s)))], [4]⟩
theorem tells_does (s : Nat → Int) (b : List UInt8) (tag : UInt8) (L : List (List UInt8)) (hb0 : b.length ≤ 9223372036854775807) (hL0 : L.length ≤ 9223372036854775807) (hL1 : ∀ l ∈ L, l.length ≤ 9223372036854775807) :
    Does Try.prog 3 [st s, bytesA b, VX.byte tag, sl 1 bytesA L] [] [] Yes := by
  refine Does.intro (fn := Try.f3) Try.func3 rfl rfl fun Γ hΓ => ?_
  refine W.run TOK 64 hΓ 1000 ?_
  conv => whnf
  refine ⟨?_, ?_⟩
  repeat' first
    | assumption
    | exact Bool.noConfusion hb
    | exact absurd hb (by decide)
    | (apply W.atRet (π := []) (r' := []) TOK; refine ⟨rfl, rfl, rfl, rfl, rfl, ?_, ?_, ?_⟩)
    | (refine W.branch rfl (fun hb => ?_) (fun hb => ?_) <;> ((try simp only [decide_eq_true_eq, decide_eq_false_iff_not, Bool.not_eq_true', Bool.not_eq_false', Int.not_lt, Int.not_le, cond_true, cond_false, reduceCtorEq, Int.toNat_natCast, addI] at hb); (try replace hb := of_decide_eq_true hb); (try replace hb := of_decide_eq_false hb)))
    | (refine D.branch rfl (fun hb => ?_) (fun hb => ?_) <;> ((try simp only [decide_eq_true_eq, decide_eq_false_iff_not, Bool.not_eq_true', Bool.not_eq_false', Int.not_lt, Int.not_le, cond_true, cond_false, reduceCtorEq, Int.toNat_natCast, addI] at hb); (try replace hb := of_decide_eq_true hb); (try replace hb := of_decide_eq_false hb)))
    | (refine D.callF (known_does) rfl rfl rfl rfl [] [] [] rfl rfl hΓ rfl trivial trivial (.inl rfl) rfl ?_; (conv => whnf))
    | (refine W.callF (known_does) rfl rfl rfl rfl [] [] [] rfl rfl hΓ rfl trivial trivial (.inl rfl) ?_)
    | (refine D.callF (perm_does _) rfl rfl rfl rfl [] [] [] rfl rfl hΓ rfl ⟨⟨rfl, rfl, fun _ _ => A.sim.refl _⟩, trivial⟩ trivial (.inl rfl) rfl ?_; (conv => whnf))
    | (refine W.callF (perm_does _) rfl rfl rfl rfl [] [] [] rfl rfl hΓ rfl ⟨⟨rfl, rfl, fun _ _ => A.sim.refl _⟩, trivial⟩ trivial (.inl rfl) ?_)
    | (refine D.callF (rperm_does _) rfl rfl rfl rfl [] [] [] rfl rfl hΓ rfl ⟨⟨rfl, rfl, fun _ _ => A.sim.refl _⟩, trivial⟩ trivial (.inl rfl) rfl ?_; (conv => whnf))
    | (refine W.callF (rperm_does _) rfl rfl rfl rfl [] [] [] rfl rfl hΓ rfl ⟨⟨rfl, rfl, fun _ _ => A.sim.refl _⟩, trivial⟩ trivial (.inl rfl) ?_)
    | (refine D.callF (sum_does b hb9) rfl rfl rfl rfl [] [] [] rfl rfl hΓ rfl ⟨⟨rfl, rfl, fun _ _ => A.sim.refl _⟩, trivial⟩ trivial (.inl rfl) rfl ?_; (conv => whnf))
    | (refine W.callF (sum_does b hb9) rfl rfl rfl rfl [] [] [] rfl rfl hΓ rfl ⟨⟨rfl, rfl, fun _ _ => A.sim.refl _⟩, trivial⟩ trivial (.inl rfl) ?_)
    | (refine D.callF (rsum_does b hb9) rfl rfl rfl rfl [] [] [] rfl rfl hΓ rfl ⟨⟨rfl, rfl, fun _ _ => A.sim.refl _⟩, trivial⟩ trivial (.inl rfl) rfl ?_; (conv => whnf))
    | (refine W.callF (rsum_does b hb9) rfl rfl rfl rfl [] [] [] rfl rfl hΓ rfl ⟨⟨rfl, rfl, fun _ _ => A.sim.refl _⟩, trivial⟩ trivial (.inl rfl) ?_)
    | (refine D.callF (text_does tag L hL9) rfl rfl rfl rfl [] [] [47] rfl rfl hΓ rfl ⟨⟨rfl, rfl⟩, ⟨rfl, rfl, fun _ _ => A.sim.refl _⟩, trivial⟩ trivial (.inl rfl) rfl ?_; (conv => whnf))
    | (refine W.callF (text_does tag L hL9) rfl rfl rfl rfl [] [] [47] rfl rfl hΓ rfl ⟨⟨rfl, rfl⟩, ⟨rfl, rfl, fun _ _ => A.sim.refl _⟩, trivial⟩ trivial (.inl rfl) ?_)
    | (refine D.callF (rtext_does tag L hL9) rfl rfl rfl rfl [] [] [51] rfl rfl hΓ rfl ⟨⟨rfl, rfl⟩, ⟨rfl, rfl, fun _ _ => A.sim.refl _⟩, trivial⟩ trivial (.inl rfl) rfl ?_; (conv => whnf))
    | (refine W.callF (rtext_does tag L hL9) rfl rfl rfl rfl [] [] [51] rfl rfl hΓ rfl ⟨⟨rfl, rfl⟩, ⟨rfl, rfl, fun _ _ => A.sim.refl _⟩, trivial⟩ trivial (.inl rfl) ?_)
    | (refine D.callF (tag_does tag L hL9) rfl rfl rfl rfl [] [] [] rfl rfl hΓ rfl ⟨⟨rfl, rfl⟩, ⟨rfl, rfl, fun _ _ => A.sim.refl _⟩, trivial⟩ trivial (.inl rfl) rfl ?_; (conv => whnf))
    | (refine W.callF (tag_does tag L hL9) rfl rfl rfl rfl [] [] [] rfl rfl hΓ rfl ⟨⟨rfl, rfl⟩, ⟨rfl, rfl, fun _ _ => A.sim.refl _⟩, trivial⟩ trivial (.inl rfl) ?_)
    | (refine D.callF (rtag_does tag L hL9) rfl rfl rfl rfl [] [] [] rfl rfl hΓ rfl ⟨⟨rfl, rfl⟩, ⟨rfl, rfl, fun _ _ => A.sim.refl _⟩, trivial⟩ trivial (.inl rfl) rfl ?_; (conv => whnf))
    | (refine W.callF (rtag_does tag L hL9) rfl rfl rfl rfl [] [] [] rfl rfl hΓ rfl ⟨⟨rfl, rfl⟩, ⟨rfl, rfl, fun _ _ => A.sim.refl _⟩, trivial⟩ trivial (.inl rfl) ?_)
    | (refine W.go TOK 64 hΓ 1000 rfl ?_; (conv => whnf); refine ⟨?_, ?_⟩)
    | (refine D.go TOK 64 hΓ 1000 rfl ?_; (conv => whnf); refine ⟨?_, ?_⟩)
    | (refine W.drawn rfl rfl ?_; refine D.run TOK 64 hΓ 1000 ?_; (conv => whnf); refine ⟨?_, ?_⟩)
  all_goals try (exact trivial)
  all_goals try (exact rfl)
  all_goals try omega
  all_goals try (first
    | (simp only [allP, List.nil_append, List.append_nil, List.cons_append, List.append_eq, and_true, true_and, inr_i64, inr_u8, inr_u64, A.purePL, A.pureP, A.sureP, A.surePL, Int.toNat_natCast, addI, cHi, cLo, hiN, loN, subO, hasIdx, cond_true, cond_false]; done)
    | (simp only [allP, List.nil_append, List.append_nil, List.cons_append, List.append_eq, and_true, true_and, inr_i64, inr_u8, inr_u64, A.purePL, A.pureP, A.sureP, A.surePL, Int.toNat_natCast, addI, cHi, cLo, hiN, loN, subO, hasIdx, cond_true, cond_false]; omega)
    | (simp only [allP, List.nil_append, List.append_nil, List.cons_append, List.append_eq, and_true, true_and, inr_i64, inr_u8, inr_u64, A.purePL, A.pureP, A.sureP, A.surePL, Int.toNat_natCast, addI, cHi, cLo, hiN, loN, subO, hasIdx, cond_true, cond_false]; (repeat' apply And.intro) <;> first | exact trivial | rfl | omega | decide))
  refine W.loop (fun i => i ≤ L.length ∧ ∀ j, j < i → (L.getD j []).length ≤ 60) (fun i => L.length - i) (Sl1 s b tag L) 0 ⟨Nat.zero_le _, fun j hj => absurd hj (Nat.not_lt_zero _)⟩ (Weak.via [(4, 4)] rfl rfl rfl ⟨⟨rfl, rfl, fun _ _ => A.sim.refl _⟩, ⟨rfl, rfl⟩, ⟨rfl, rfl, fun _ _ => A.sim.refl _⟩, ⟨rfl, rfl⟩, ⟨rfl, rfl⟩, trivial⟩ ⟨⟨rfl, rfl, fun _ _ => A.sim.refl _⟩, trivial⟩) ?_
  rintro i ⟨hi, hs⟩ ih
  have hb9 : b.length ≤ 1000000000000 := by omega
  have hL6 : L.length ≤ 6 := by omega
  dsimp only [Sl1]
  by_cases hi2 : i < L.length
  · have hgd : (L.getD i []).length ≤ 9223372036854775807 := by
      rw [List.getD_eq_getElem?_getD, List.getElem?_eq_getElem hi2]
      exact hL1 _ (List.getElem_mem hi2)
    refine W.run TOK 64 hΓ 1000 ?_
    conv => whnf
    refine ⟨?_, ?_⟩
    repeat' first
      | assumption
      | exact Bool.noConfusion hb
      | exact absurd hb (by decide)
      | (refine W.to (ih (i + 1) ?_ ?_) (Weak.via [(4, 4)] rfl rfl rfl ⟨⟨rfl, rfl, fun _ _ => A.sim.refl _⟩, ⟨rfl, rfl⟩, ⟨rfl, rfl, fun _ _ => A.sim.refl _⟩, ⟨rfl, rfl⟩, ⟨rfl, rfl⟩, trivial⟩ ⟨⟨rfl, rfl, fun _ _ => A.sim.refl _⟩, trivial⟩))
      | (apply W.atRet (π := []) (r' := []) TOK; refine ⟨rfl, rfl, rfl, rfl, rfl, ?_, ?_, ?_⟩)
      | (refine W.branch rfl (fun hb => ?_) (fun hb => ?_) <;> ((try simp only [decide_eq_true_eq, decide_eq_false_iff_not, Bool.not_eq_true', Bool.not_eq_false', Int.not_lt, Int.not_le, cond_true, cond_false, reduceCtorEq, Int.toNat_natCast, addI] at hb); (try replace hb := of_decide_eq_true hb); (try replace hb := of_decide_eq_false hb)))
      | (refine W.go TOK 64 hΓ 1000 rfl ?_; (conv => whnf); refine ⟨?_, ?_⟩)
    all_goals try (exact trivial)
    all_goals try (exact rfl)
    all_goals try omega
    all_goals try (first
      | (simp only [allP, List.nil_append, List.append_nil, List.cons_append, List.append_eq, and_true, true_and, inr_i64, inr_u8, inr_u64, A.purePL, A.pureP, A.sureP, A.surePL, Int.toNat_natCast, addI, cHi, cLo, hiN, loN, subO, hasIdx, cond_true, cond_false]; done)
      | (simp only [allP, List.nil_append, List.append_nil, List.cons_append, List.append_eq, and_true, true_and, inr_i64, inr_u8, inr_u64, A.purePL, A.pureP, A.sureP, A.surePL, Int.toNat_natCast, addI, cHi, cLo, hiN, loN, subO, hasIdx, cond_true, cond_false]; omega)
      | (simp only [allP, List.nil_append, List.append_nil, List.cons_append, List.append_eq, and_true, true_and, inr_i64, inr_u8, inr_u64, A.purePL, A.pureP, A.sureP, A.surePL, Int.toNat_natCast, addI, cHi, cLo, hiN, loN, subO, hasIdx, cond_true, cond_false]; (repeat' apply And.intro) <;> first | exact trivial | rfl | omega | decide))
    all_goals try (exact absurd ‹_› (by omega))
    refine ⟨by omega, fun j hj => ?_⟩
    by_cases e : j < i
    · exact hs j e
    · have : j = i := by omega
      subst this
      have h60 : ((L.getD j []).length : Int) ≤ 60 := ‹_›
      omega
  · have ei : i = L.length := by omega
    have hL9 : (textS tag L).length ≤ 1000000000000 := by
      have := textS_bound tag L 60 fun l hl => by
        obtain ⟨j, hj, rfl⟩ := List.getElem_of_mem hl
        have := hs j (by omega)
        rwa [List.getD_eq_getElem?_getD, List.getElem?_eq_getElem hj] at this
      have h2 : L.length * (8 + 60) ≤ 6 * 68 := Nat.mul_le_mul_right _ hL6
      omega
    clear ih
    refine W.run TOK 64 hΓ 1000 ?_
    conv => whnf
    refine ⟨?_, ?_⟩
    repeat' first
      | assumption
      | exact Bool.noConfusion hb
      | exact absurd hb (by decide)
      | (simp only [all_aeq_int, all_aeq_bytes, implies_true, decide_true, Bool.not_true, reduceCtorEq] at hb; done)
      | (exfalso; revert hb; simp; done)
      | (apply W.atRet (π := []) (r' := []) TOK; refine ⟨rfl, rfl, rfl, rfl, rfl, ?_, ?_, ?_⟩)
      | (refine W.branch rfl (fun hb => ?_) (fun hb => ?_) <;> ((try simp only [decide_eq_true_eq, decide_eq_false_iff_not, Bool.not_eq_true', Bool.not_eq_false', Int.not_lt, Int.not_le, cond_true, cond_false, reduceCtorEq, Int.toNat_natCast, addI] at hb); (try replace hb := of_decide_eq_true hb); (try replace hb := of_decide_eq_false hb)))
      | (refine D.branch rfl (fun hb => ?_) (fun hb => ?_) <;> ((try simp only [decide_eq_true_eq, decide_eq_false_iff_not, Bool.not_eq_true', Bool.not_eq_false', Int.not_lt, Int.not_le, cond_true, cond_false, reduceCtorEq, Int.toNat_natCast, addI] at hb); (try replace hb := of_decide_eq_true hb); (try replace hb := of_decide_eq_false hb)))
      | (refine D.callF (known_does) rfl rfl rfl rfl [] [] [] rfl rfl hΓ rfl trivial trivial (.inl rfl) rfl ?_; (conv => whnf))
      | (refine W.callF (known_does) rfl rfl rfl rfl [] [] [] rfl rfl hΓ rfl trivial trivial (.inl rfl) ?_)
      | (refine D.callF (perm_does _) rfl rfl rfl rfl [] [] [] rfl rfl hΓ rfl ⟨⟨rfl, rfl, fun _ _ => A.sim.refl _⟩, trivial⟩ trivial (.inl rfl) rfl ?_; (conv => whnf))
      | (refine W.callF (perm_does _) rfl rfl rfl rfl [] [] [] rfl rfl hΓ rfl ⟨⟨rfl, rfl, fun _ _ => A.sim.refl _⟩, trivial⟩ trivial (.inl rfl) ?_)
      | (refine D.callF (rperm_does _) rfl rfl rfl rfl [] [] [] rfl rfl hΓ rfl ⟨⟨rfl, rfl, fun _ _ => A.sim.refl _⟩, trivial⟩ trivial (.inl rfl) rfl ?_; (conv => whnf))
      | (refine W.callF (rperm_does _) rfl rfl rfl rfl [] [] [] rfl rfl hΓ rfl ⟨⟨rfl, rfl, fun _ _ => A.sim.refl _⟩, trivial⟩ trivial (.inl rfl) ?_)
      | (refine D.callF (sum_does b hb9) rfl rfl rfl rfl [] [] [] rfl rfl hΓ rfl ⟨⟨rfl, rfl, fun _ _ => A.sim.refl _⟩, trivial⟩ trivial (.inl rfl) rfl ?_; (conv => whnf))
      | (refine W.callF (sum_does b hb9) rfl rfl rfl rfl [] [] [] rfl rfl hΓ rfl ⟨⟨rfl, rfl, fun _ _ => A.sim.refl _⟩, trivial⟩ trivial (.inl rfl) ?_)
      | (refine D.callF (rsum_does b hb9) rfl rfl rfl rfl [] [] [] rfl rfl hΓ rfl ⟨⟨rfl, rfl, fun _ _ => A.sim.refl _⟩, trivial⟩ trivial (.inl rfl) rfl ?_; (conv => whnf))
      | (refine W.callF (rsum_does b hb9) rfl rfl rfl rfl [] [] [] rfl rfl hΓ rfl ⟨⟨rfl, rfl, fun _ _ => A.sim.refl _⟩, trivial⟩ trivial (.inl rfl) ?_)
      | (refine D.callF (text_does tag L hL9) rfl rfl rfl rfl [] [] [47] rfl rfl hΓ rfl ⟨⟨rfl, rfl⟩, ⟨rfl, rfl, fun _ _ => A.sim.refl _⟩, trivial⟩ trivial (.inl rfl) rfl ?_; (conv => whnf))
      | (refine W.callF (text_does tag L hL9) rfl rfl rfl rfl [] [] [47] rfl rfl hΓ rfl ⟨⟨rfl, rfl⟩, ⟨rfl, rfl, fun _ _ => A.sim.refl _⟩, trivial⟩ trivial (.inl rfl) ?_)
      | (refine D.callF (rtext_does tag L hL9) rfl rfl rfl rfl [] [] [51] rfl rfl hΓ rfl ⟨⟨rfl, rfl⟩, ⟨rfl, rfl, fun _ _ => A.sim.refl _⟩, trivial⟩ trivial (.inl rfl) rfl ?_; (conv => whnf))
      | (refine W.callF (rtext_does tag L hL9) rfl rfl rfl rfl [] [] [51] rfl rfl hΓ rfl ⟨⟨rfl, rfl⟩, ⟨rfl, rfl, fun _ _ => A.sim.refl _⟩, trivial⟩ trivial (.inl rfl) ?_)
      | (refine D.callF (tag_does tag L hL9) rfl rfl rfl rfl [] [] [] rfl rfl hΓ rfl ⟨⟨rfl, rfl⟩, ⟨rfl, rfl, fun _ _ => A.sim.refl _⟩, trivial⟩ trivial (.inl rfl) rfl ?_; (conv => whnf))
      | (refine W.callF (tag_does tag L hL9) rfl rfl rfl rfl [] [] [] rfl rfl hΓ rfl ⟨⟨rfl, rfl⟩, ⟨rfl, rfl, fun _ _ => A.sim.refl _⟩, trivial⟩ trivial (.inl rfl) ?_)
      | (refine D.callF (rtag_does tag L hL9) rfl rfl rfl rfl [] [] [] rfl rfl hΓ rfl ⟨⟨rfl, rfl⟩, ⟨rfl, rfl, fun _ _ => A.sim.refl _⟩, trivial⟩ trivial (.inl rfl) rfl ?_; (conv => whnf))
      | (refine W.callF (rtag_does tag L hL9) rfl rfl rfl rfl [] [] [] rfl rfl hΓ rfl ⟨⟨rfl, rfl⟩, ⟨rfl, rfl, fun _ _ => A.sim.refl _⟩, trivial⟩ trivial (.inl rfl) ?_)
      | (refine W.go TOK 64 hΓ 1000 rfl ?_; (conv => whnf); refine ⟨?_, ?_⟩)
      | (refine D.go TOK 64 hΓ 1000 rfl ?_; (conv => whnf); refine ⟨?_, ?_⟩)
      | (refine W.drawn rfl rfl ?_; refine D.run TOK 64 hΓ 1000 ?_; (conv => whnf); refine ⟨?_, ?_⟩)
    all_goals try (exact trivial)
    all_goals try (exact rfl)
    all_goals try omega
    all_goals try (first
      | (simp only [allP, List.nil_append, List.append_nil, List.cons_append, List.append_eq, and_true, true_and, inr_i64, inr_u8, inr_u64, A.purePL, A.pureP, A.sureP, A.surePL, Int.toNat_natCast, addI, cHi, cLo, hiN, loN, subO, hasIdx, cond_true, cond_false]; done)
      | (simp only [allP, List.nil_append, List.append_nil, List.cons_append, List.append_eq, and_true, true_and, inr_i64, inr_u8, inr_u64, A.purePL, A.pureP, A.sureP, A.surePL, Int.toNat_natCast, addI, cHi, cLo, hiN, loN, subO, hasIdx, cond_true, cond_false]; omega)
      | (simp only [allP, List.nil_append, List.append_nil, List.cons_append, List.append_eq, and_true, true_and, inr_i64, inr_u8, inr_u64, A.purePL, A.pureP, A.sureP, A.surePL, Int.toNat_natCast, addI, cHi, cLo, hiN, loN, subO, hasIdx, cond_true, cond_false]; (repeat' apply And.intro) <;> first | exact trivial | rfl | omega | decide))
    all_goals try (simp only [allP, List.nil_append, List.append_nil, List.cons_append, List.append_eq, and_true, true_and, A.purePL, A.pureP, A.sureP, A.surePL, addI, shiftF]; (repeat' apply And.intro) <;> first | exact trivial | rfl | omega | exact fun i hi => ⟨⟨_, rfl⟩, ⟨_, rfl⟩⟩ | exact fun i hi => ⟨_, rfl⟩ | exact fun i hi => by match i, hi with | 0, _ | 1, _ | 2, _ | 3, _ | 4, _ => exact ⟨⟨_, rfl⟩, ⟨_, rfl⟩⟩)
    all_goals (change _ = true; simp only [cond_true, all_aeq_int, all_aeq_bytes, implies_true, decide_true])

theorem spongeTells_law (x0 x1 x2 x3 : A) (s0 : Shaped (.arr 5 (.int .u64)) x0) (s1 : Shaped (.slice (.int .u8)) x1) (s2 : Shaped (.int .u8) x2) (s3 : Shaped (.slice (.slice (.int .u8))) x3) : Does Try.prog 3 [x0, x1, x2, x3] [] [] Yes := by
  obtain ⟨s, h0, _⟩ := (Rep.arr (Rep.int .u64) 5) x0 s0
  obtain ⟨b, h1, hb⟩ := Rep.bytes x1 s1
  obtain ⟨tag, h2, _⟩ := Rep.byte x2 s2
  obtain ⟨L, h3, hL, hl⟩ := (Rep.slice Rep.bytes) x3 s3
  exact Does.args (ys := [st (fun i => s.getD i default), bytesA b, VX.byte tag, sl 1 bytesA L]) ⟨h0, h1, h2, h3, trivial⟩ ⟨s0.pure, s1.pure, s2.pure, s3.pure, trivial⟩ (tells_does _ b tag L hb hL hl)
end Go.Proofs.Ytkcloienempifaa
