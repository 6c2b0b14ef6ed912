/- Walks: the statements of layer 1. -/
import Derived.Test.YtflkdkclmmnocaaBn1K
import Derived.Test.YtflkdkclmmnocaaSpMore
set_option linter.unusedSimpArgs false
set_option linter.unusedVariables false
namespace Go.Proofs.Ytflkdkclmmnocaa
open VX
set_option maxRecDepth 100000
set_option maxHeartbeats 4000000

def Sp1 (b cuts : List UInt8) (x : Nat × Nat) : St := ⟨[(0, bytesA b), (1, bytesA cuts), (5, .ptr 303 []), (6, .own 1 500 0 x.2), (7, .int .i64 x.1)], [(303, some (rd (b.drop x.2) 0)), (500, some (.arr 1 x.2 (byteAt (b.take x.2))))], [303, 500]⟩
theorem parts_does (b cuts : List UInt8) (hb0 : b.length ≤ 9223372036854775807) (hc0 : cuts.length ≤ 9223372036854775807) : Does Try.prog 6 [bytesA b, bytesA cuts] [] [] Yes := by
  have k5 : ([] : List UInt8).length ≤ 1000000000000 := by decide
  refine Does.intro (fn := Try.f6) Try.func6 rfl rfl fun Γ hΓ => ?_
  refine W.run TOK 81 hΓ 1000 ?_
  conv => whnf
  refine ⟨?_, ?_⟩
  repeat' first
    | assumption
    | exact Bool.noConfusion hb
    | exact absurd hb (by decide)
    | (apply W.atRet (π := []) (r' := []) TOK; refine ⟨rfl, rfl, rfl, rfl, rfl, ?_, ?_, ?_⟩)
    | (refine W.branch rfl (fun hb => ?_) (fun hb => ?_) <;> ((try simp only [decide_eq_true_eq, decide_eq_false_iff_not, Bool.not_eq_true', Bool.not_eq_false', Int.not_lt, Int.not_le, cond_true, cond_false, reduceCtorEq, Int.toNat_natCast, addI] at hb); (try replace hb := of_decide_eq_true hb); (try replace hb := of_decide_eq_false hb)))
    | (refine D.branch rfl (fun hb => ?_) (fun hb => ?_) <;> ((try simp only [decide_eq_true_eq, decide_eq_false_iff_not, Bool.not_eq_true', Bool.not_eq_false', Int.not_lt, Int.not_le, cond_true, cond_false, reduceCtorEq, Int.toNat_natCast, addI] at hb); (try replace hb := of_decide_eq_true hb); (try replace hb := of_decide_eq_false hb)))
    | (refine D.callF (known_does) rfl rfl rfl rfl [] [] [] rfl rfl hΓ rfl trivial trivial (.inl rfl) rfl ?_; (conv => whnf))
    | (refine W.callF (known_does) rfl rfl rfl rfl [] [] [] rfl rfl hΓ rfl trivial trivial (.inl rfl) ?_)
    | (refine W.go TOK 81 hΓ 1000 rfl ?_; (conv => whnf); refine ⟨?_, ?_⟩)
    | (refine D.go TOK 81 hΓ 1000 rfl ?_; (conv => whnf); refine ⟨?_, ?_⟩)
    | (refine W.drawn rfl rfl ?_; refine D.run TOK 81 hΓ 1000 ?_; (conv => whnf); refine ⟨?_, ?_⟩)
  all_goals try (exact trivial)
  all_goals try (exact rfl)
  all_goals try omega
  all_goals try (first
    | (simp only [allP, List.nil_append, List.append_nil, List.cons_append, List.append_eq, and_true, true_and, inr_i64, inr_u8, inr_u64, A.purePL, A.pureP, A.sureP, A.surePL, Int.toNat_natCast, addI, cHi, cLo, hiN, loN, subO, addO, hasIdx, cond_true, cond_false]; done)
    | (simp only [allP, List.nil_append, List.append_nil, List.cons_append, List.append_eq, and_true, true_and, inr_i64, inr_u8, inr_u64, A.purePL, A.pureP, A.sureP, A.surePL, Int.toNat_natCast, addI, cHi, cLo, hiN, loN, subO, addO, hasIdx, cond_true, cond_false]; omega)
    | (simp only [allP, List.nil_append, List.append_nil, List.cons_append, List.append_eq, and_true, true_and, inr_i64, inr_u8, inr_u64, A.purePL, A.pureP, A.sureP, A.surePL, Int.toNat_natCast, addI, cHi, cLo, hiN, loN, subO, addO, hasIdx, cond_true, cond_false]; (repeat' apply And.intro) <;> first | exact trivial | rfl | omega | decide))
  all_goals (have h60 : b.length ≤ 1000000000000 := by omega)
  all_goals (refine W.addNil 500 1 (byteAt []) rfl ?_)
  repeat' first
    | assumption
    | exact Bool.noConfusion hb
    | exact absurd hb (by decide)
    | (apply W.atRet (π := []) (r' := []) TOK; refine ⟨rfl, rfl, rfl, rfl, rfl, ?_, ?_, ?_⟩)
    | (refine W.branch rfl (fun hb => ?_) (fun hb => ?_) <;> ((try simp only [decide_eq_true_eq, decide_eq_false_iff_not, Bool.not_eq_true', Bool.not_eq_false', Int.not_lt, Int.not_le, cond_true, cond_false, reduceCtorEq, Int.toNat_natCast, addI] at hb); (try replace hb := of_decide_eq_true hb); (try replace hb := of_decide_eq_false hb)))
    | (refine D.branch rfl (fun hb => ?_) (fun hb => ?_) <;> ((try simp only [decide_eq_true_eq, decide_eq_false_iff_not, Bool.not_eq_true', Bool.not_eq_false', Int.not_lt, Int.not_le, cond_true, cond_false, reduceCtorEq, Int.toNat_natCast, addI] at hb); (try replace hb := of_decide_eq_true hb); (try replace hb := of_decide_eq_false hb)))
    | (refine D.callF (new_does b h60) rfl rfl rfl rfl [] [] [303] rfl rfl hΓ rfl ⟨⟨rfl, rfl, fun _ _ => A.sim.refl _⟩, trivial⟩ trivial (.inl rfl) rfl ?_; (conv => whnf))
    | (refine W.callF (new_does b h60) rfl rfl rfl rfl [] [] [303] rfl rfl hΓ rfl ⟨⟨rfl, rfl, fun _ _ => A.sim.refl _⟩, trivial⟩ trivial (.inl rfl) ?_)
    | (refine W.go TOK 81 hΓ 1000 rfl ?_; (conv => whnf); refine ⟨?_, ?_⟩)
    | (refine D.go TOK 81 hΓ 1000 rfl ?_; (conv => whnf); refine ⟨?_, ?_⟩)
    | (refine W.drawn rfl rfl ?_; refine D.run TOK 81 hΓ 1000 ?_; (conv => whnf); refine ⟨?_, ?_⟩)
  all_goals try (exact trivial)
  all_goals try (exact rfl)
  all_goals try omega
  all_goals try (first
    | (simp only [allP, List.nil_append, List.append_nil, List.cons_append, List.append_eq, and_true, true_and, inr_i64, inr_u8, inr_u64, A.purePL, A.pureP, A.sureP, A.surePL, Int.toNat_natCast, addI, cHi, cLo, hiN, loN, subO, addO, hasIdx, cond_true, cond_false]; done)
    | (simp only [allP, List.nil_append, List.append_nil, List.cons_append, List.append_eq, and_true, true_and, inr_i64, inr_u8, inr_u64, A.purePL, A.pureP, A.sureP, A.surePL, Int.toNat_natCast, addI, cHi, cLo, hiN, loN, subO, addO, hasIdx, cond_true, cond_false]; omega)
    | (simp only [allP, List.nil_append, List.append_nil, List.cons_append, List.append_eq, and_true, true_and, inr_i64, inr_u8, inr_u64, A.purePL, A.pureP, A.sureP, A.surePL, Int.toNat_natCast, addI, cHi, cLo, hiN, loN, subO, addO, hasIdx, cond_true, cond_false]; (repeat' apply And.intro) <;> first | exact trivial | rfl | omega | decide))
  refine W.loop (fun x => x.1 ≤ cuts.length ∧ x.2 ≤ b.length) (fun x => cuts.length - x.1) (Sp1 b cuts) (0, 0) ⟨Nat.zero_le _, Nat.zero_le _⟩ (Weak.via [(303, 303), (500, 500)] rfl rfl rfl ⟨⟨rfl, rfl, fun _ _ => A.sim.refl _⟩, ⟨rfl, rfl, fun _ _ => A.sim.refl _⟩, ⟨rfl, rfl⟩, rfl, ⟨rfl, rfl⟩, trivial⟩ ⟨⟨⟨rfl, rfl, fun _ _ => A.sim.refl _⟩, ⟨rfl, rfl⟩, trivial⟩, ⟨rfl, Nat.le_refl _, fun _ h => absurd h (Nat.not_lt_zero _)⟩, trivial⟩) ?_
  rintro ⟨i, j⟩ ⟨hi, hj⟩ ih
  have hi : i ≤ cuts.length := hi
  have hj : j ≤ b.length := hj
  have hdl : (b.drop j).length = b.length - j := List.length_drop
  obtain ⟨mm, hmm⟩ : ∃ mm : Nat, mm = min ((cuts.getD i 0).toNat % 9) (b.length - j) := ⟨_, rfl⟩
  have hd6 : (b.drop j).length ≤ 1000000000000 := by omega
  have c1 := raw_does (b.drop j) 0 mm hd6
  rw [rawS_nat (b.drop j) mm (by omega), List.drop_drop] at c1
  have c2 := raw_does (b.drop j) 0 (b.drop j).length hd6
  rw [rawS_nat (b.drop j) (b.drop j).length (Nat.le_refl _), List.take_length, List.drop_length] at c2
  have c3 := raw_does [] 0 (-5) k5
  rw [show rawS ⟨[], 0⟩ (-5) = ([], ⟨[], 0⟩) by decide +kernel] at c3
  dsimp only [Rd.o] at c1 c2 c3
  have hwc : IntKind.i64.wrap (((cuts.getD i 0).toNat : Int) % 9) = ((cuts.getD i 0).toNat % 9 : Nat) := by rw [wrap_i64_in (by omega) (by omega)]; omega
  have hiff : (if ((b.drop j).length : Int) < IntKind.i64.wrap (((cuts.getD i 0).toNat : Int) % 9) then ((b.drop j).length : Int) else IntKind.i64.wrap (((cuts.getD i 0).toNat : Int) % 9)) = (mm : Int) := by
    rw [hwc]; split <;> omega
  have htl : (List.take mm (b.drop j)).length = mm := by rw [List.length_take]; omega
  have hjl : (b.take j).length = j := by rw [List.length_take]; omega
  have hcat : ∀ q, q < j + mm → (catF j (byteAt (b.take j)) (byteAt (List.take mm (b.drop j))) q).sim (byteAt (b.take (j + mm)) q) := fun q hq => by
    rw [List.take_add]
    exact cat_sim hjl.symm (fun _ _ => rfl) (fun _ _ => rfl) (by rw [htl]; exact hq)
  have hcatb : catF j (byteAt (b.take j)) (byteAt (b.drop j)) = byteAt b := by
    funext q
    have := cat_bytes (b.take j) (b.drop j) q
    rw [hjl, List.take_append_drop] at this
    exact this
  have hfin : bytesOf (j + (b.drop j).length) (shiftF 0 (catF j (byteAt (b.take j)) (byteAt (b.drop j)))) = bytesOf b.length (byteAt b) := by
    rw [show j + (b.drop j).length = b.length by omega, hcatb]
    rfl
  have hint : ∀ q, q < j + (b.drop j).length → isInt .u8 (shiftF 0 (catF j (byteAt (b.take j)) (byteAt (b.drop j))) q) := fun q _ => by
    rw [hcatb]; exact ⟨_, rfl⟩
  have hintb : ∀ q, q < b.length → isInt .u8 (byteAt b q) := fun q _ => ⟨_, rfl⟩
  dsimp only [Sp1]
  refine W.run TOK 81 hΓ 1000 ?_
  conv => whnf
  refine ⟨?_, ?_⟩
  repeat' first
    | assumption
    | exact Bool.noConfusion hb
    | exact absurd hb (by decide)
    | exact absurd hfin hb
    | (refine W.to (ih (i + 1, j + mm) ?_ ?_) (Weak.via [(303, 303), (500, 40)] rfl rfl rfl ⟨⟨rfl, rfl, fun _ _ => A.sim.refl _⟩, ⟨rfl, rfl, fun _ _ => A.sim.refl _⟩, ⟨rfl, rfl⟩, ⟨rfl, rfl, rfl, ?_⟩, ⟨rfl, rfl⟩, trivial⟩ ⟨⟨⟨rfl, ?_, ?_⟩, ⟨rfl, rfl⟩, trivial⟩, ⟨rfl, ?_, ?_⟩, trivial⟩))
    | (apply W.atRet (π := []) (r' := []) TOK; refine ⟨rfl, rfl, rfl, rfl, rfl, ?_, ?_, ?_⟩)
    | (refine W.branch rfl (fun hb => ?_) (fun hb => ?_) <;> ((try simp only [decide_eq_true_eq, decide_eq_false_iff_not, Bool.not_eq_true', Bool.not_eq_false', Int.not_lt, Int.not_le, cond_true, cond_false, reduceCtorEq, Int.toNat_natCast, addI] at hb); (try replace hb := of_decide_eq_true hb); (try replace hb := of_decide_eq_false hb)))
    | (refine D.branch rfl (fun hb => ?_) (fun hb => ?_) <;> ((try simp only [decide_eq_true_eq, decide_eq_false_iff_not, Bool.not_eq_true', Bool.not_eq_false', Int.not_lt, Int.not_le, cond_true, cond_false, reduceCtorEq, Int.toNat_natCast, addI] at hb); (try replace hb := of_decide_eq_true hb); (try replace hb := of_decide_eq_false hb)))
    | (refine D.callF ((left_does (b.drop j) 0)) rfl rfl rfl rfl [(1000, 303)] [] [] rfl rfl hΓ rfl ⟨⟨rfl, rfl⟩, trivial⟩ ⟨⟨⟨rfl, rfl, fun _ _ => A.sim.refl _⟩, ⟨rfl, rfl⟩, trivial⟩, trivial⟩ (.inl rfl) rfl ?_; (conv => whnf))
    | (refine W.callF ((left_does (b.drop j) 0)) rfl rfl rfl rfl [(1000, 303)] [] [] rfl rfl hΓ rfl ⟨⟨rfl, rfl⟩, trivial⟩ ⟨⟨⟨rfl, rfl, fun _ _ => A.sim.refl _⟩, ⟨rfl, rfl⟩, trivial⟩, trivial⟩ (.inl rfl) ?_)
    | (refine D.callF (c2) rfl rfl rfl rfl [(1000, 303)] [] [] rfl rfl hΓ rfl ⟨⟨rfl, rfl⟩, ⟨rfl, rfl⟩, trivial⟩ ⟨⟨⟨rfl, rfl, fun _ _ => A.sim.refl _⟩, ⟨rfl, rfl⟩, trivial⟩, trivial⟩ (.inl rfl) rfl ?_; (conv => whnf))
    | (refine W.callF (c2) rfl rfl rfl rfl [(1000, 303)] [] [] rfl rfl hΓ rfl ⟨⟨rfl, rfl⟩, ⟨rfl, rfl⟩, trivial⟩ ⟨⟨⟨rfl, rfl, fun _ _ => A.sim.refl _⟩, ⟨rfl, rfl⟩, trivial⟩, trivial⟩ (.inl rfl) ?_)
    | (refine D.callF (c1) rfl rfl rfl rfl [(1000, 303)] [] [] rfl rfl hΓ rfl ⟨⟨rfl, rfl⟩, ⟨rfl, ?_⟩, trivial⟩ ⟨⟨⟨rfl, rfl, fun _ _ => A.sim.refl _⟩, ⟨rfl, rfl⟩, trivial⟩, trivial⟩ (.inl rfl) rfl ?_; (conv => whnf))
    | (refine W.callF (c1) rfl rfl rfl rfl [(1000, 303)] [] [] rfl rfl hΓ rfl ⟨⟨rfl, rfl⟩, ⟨rfl, ?_⟩, trivial⟩ ⟨⟨⟨rfl, rfl, fun _ _ => A.sim.refl _⟩, ⟨rfl, rfl⟩, trivial⟩, trivial⟩ (.inl rfl) ?_)
    | (refine D.callF ((left_does [] 0)) rfl rfl rfl rfl [(1000, 303)] [] [] rfl rfl hΓ rfl ⟨⟨rfl, rfl⟩, trivial⟩ ⟨⟨⟨rfl, rfl, fun _ _ => A.sim.refl _⟩, ⟨rfl, rfl⟩, trivial⟩, trivial⟩ (.inl rfl) rfl ?_; (conv => whnf))
    | (refine W.callF ((left_does [] 0)) rfl rfl rfl rfl [(1000, 303)] [] [] rfl rfl hΓ rfl ⟨⟨rfl, rfl⟩, trivial⟩ ⟨⟨⟨rfl, rfl, fun _ _ => A.sim.refl _⟩, ⟨rfl, rfl⟩, trivial⟩, trivial⟩ (.inl rfl) ?_)
    | (refine D.callF ((err_does [] 0)) rfl rfl rfl rfl [(1000, 303)] [] [] rfl rfl hΓ rfl ⟨⟨rfl, rfl⟩, trivial⟩ ⟨⟨⟨rfl, rfl, fun _ _ => A.sim.refl _⟩, ⟨rfl, rfl⟩, trivial⟩, trivial⟩ (.inl rfl) rfl ?_; (conv => whnf))
    | (refine W.callF ((err_does [] 0)) rfl rfl rfl rfl [(1000, 303)] [] [] rfl rfl hΓ rfl ⟨⟨rfl, rfl⟩, trivial⟩ ⟨⟨⟨rfl, rfl, fun _ _ => A.sim.refl _⟩, ⟨rfl, rfl⟩, trivial⟩, trivial⟩ (.inl rfl) ?_)
    | (refine D.callF (c3) rfl rfl rfl rfl [(1000, 303)] [] [] rfl rfl hΓ rfl ⟨⟨rfl, rfl⟩, ⟨rfl, rfl⟩, trivial⟩ ⟨⟨⟨rfl, rfl, fun _ _ => A.sim.refl _⟩, ⟨rfl, rfl⟩, trivial⟩, trivial⟩ (.inl rfl) rfl ?_; (conv => whnf))
    | (refine W.callF (c3) rfl rfl rfl rfl [(1000, 303)] [] [] rfl rfl hΓ rfl ⟨⟨rfl, rfl⟩, ⟨rfl, rfl⟩, trivial⟩ ⟨⟨⟨rfl, rfl, fun _ _ => A.sim.refl _⟩, ⟨rfl, rfl⟩, trivial⟩, trivial⟩ (.inl rfl) ?_)
    | (refine W.go TOK 81 hΓ 1000 rfl ?_; (conv => whnf); refine ⟨?_, ?_⟩)
    | (refine D.go TOK 81 hΓ 1000 rfl ?_; (conv => whnf); refine ⟨?_, ?_⟩)
    | (refine W.drawn rfl rfl ?_; refine D.run TOK 81 hΓ 1000 ?_; (conv => whnf); refine ⟨?_, ?_⟩)
  all_goals try (exact trivial)
  all_goals try (exact rfl)
  all_goals try omega
  all_goals try (first
    | (simp only [allP, List.nil_append, List.append_nil, List.cons_append, List.append_eq, and_true, true_and, inr_i64, inr_u8, inr_u64, A.purePL, A.pureP, A.sureP, A.surePL, Int.toNat_natCast, addI, cHi, cLo, hiN, loN, subO, addO, hasIdx, cond_true, cond_false]; done)
    | (simp only [allP, List.nil_append, List.append_nil, List.cons_append, List.append_eq, and_true, true_and, inr_i64, inr_u8, inr_u64, A.purePL, A.pureP, A.sureP, A.surePL, Int.toNat_natCast, addI, cHi, cLo, hiN, loN, subO, addO, hasIdx, cond_true, cond_false]; omega)
    | (simp only [allP, List.nil_append, List.append_nil, List.cons_append, List.append_eq, and_true, true_and, inr_i64, inr_u8, inr_u64, A.purePL, A.pureP, A.sureP, A.surePL, Int.toNat_natCast, addI, cHi, cLo, hiN, loN, subO, addO, hasIdx, cond_true, cond_false]; (repeat' apply And.intro) <;> first | exact trivial | rfl | omega | decide))
  all_goals try (exact hiff)
  all_goals try (exact hcat)
  all_goals try (exact fun _ _ => A.sim.refl _)
  all_goals try (show _ = _; rw [htl])
  all_goals try (show _ ≤ _; rw [htl]; exact Nat.le_refl _)
  all_goals try (exfalso; omega)
  all_goals try (simp only [allP, List.nil_append, List.append_nil, List.cons_append, and_true, true_and, A.sureP, htl]; (repeat' apply And.intro) <;> first | exact trivial | exact hint | exact hintb | omega | rfl)

theorem binParts_law (x0 x1 : A) (s0 : Shaped (.slice (.int .u8)) x0) (s1 : Shaped (.slice (.int .u8)) x1) : Does Try.prog 6 [x0, x1] [] [] Yes := by
  obtain ⟨a, h0, ha⟩ := Rep.bytes x0 s0
  obtain ⟨b, h1, hb⟩ := Rep.bytes x1 s1
  exact Does.args (ys := [bytesA a, bytesA b]) ⟨h0, h1, trivial⟩ ⟨s0.pure, s1.pure, trivial⟩ (parts_does a b ha hb)

end Go.Proofs.Ytflkdkclmmnocaa
