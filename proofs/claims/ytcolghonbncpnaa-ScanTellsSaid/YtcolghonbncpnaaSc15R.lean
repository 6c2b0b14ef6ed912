/- Walks: readers. -/
import Derived.Test.YtcolghonbncpnaaSc15L
import Derived.Test.YtcolghonbncpnaaPlA
import Derived.Test.YtcolghonbncpnaaVxI
set_option linter.unusedSimpArgs false
set_option linter.unusedVariables false
namespace Go.Proofs.Ytcolghonbncpnaa
open VX
set_option maxRecDepth 100000
set_option maxHeartbeats 4000000

theorem qSc15R1 {P : Prop} (h : P := by
  all_goals try (exact trivial)
  all_goals try (exact rfl)
  all_goals try omega
  all_goals try (first
    | (simp only [allP, List.nil_append, List.append_nil, List.cons_append, List.append_eq, and_true, true_and, inr_i64, inr_u8, inr_u64, A.purePL, A.pureP, A.sureP, A.surePL, Int.toNat_natCast, addI, cHi, cLo, hiN, loN, subO, addO, hasIdx, cond_true, cond_false, hm]; done)
    | (simp only [allP, List.nil_append, List.append_nil, List.cons_append, List.append_eq, and_true, true_and, inr_i64, inr_u8, inr_u64, A.purePL, A.pureP, A.sureP, A.surePL, Int.toNat_natCast, addI, cHi, cLo, hiN, loN, subO, addO, hasIdx, cond_true, cond_false, hm]; omega)
    | (simp only [allP, List.nil_append, List.append_nil, List.cons_append, List.append_eq, and_true, true_and, inr_i64, inr_u8, inr_u64, A.purePL, A.pureP, A.sureP, A.surePL, Int.toNat_natCast, addI, cHi, cLo, hiN, loN, subO, addO, hasIdx, cond_true, cond_false, hm]; (repeat' apply And.intro) <;> first | exact trivial | rfl | omega | decide))
  all_goals first
    | (rw [rawS_e hb]; first | exact rfl | exact ⟨⟨⟨rfl, rfl, fun _ _ => A.sim.refl _⟩, ⟨rfl, rfl⟩, trivial⟩, trivial⟩)
    | (rename_i he; rw [rawS_s he hb]; first | exact rfl | exact ⟨⟨⟨rfl, rfl, fun _ _ => A.sim.refl _⟩, ⟨rfl, rfl⟩, trivial⟩, trivial⟩)
    | (rename_i he; rw [rawS_k he hb]; exact ⟨rfl, rfl, fun _ _ => .refl _⟩)
    | (rename_i he; rw [rawS_k he hb]; exact ⟨⟨⟨rfl, drop_len l (mx n), drop_sim l (mx n) _⟩, ⟨rfl, he⟩, trivial⟩, trivial⟩)
    | (rename_i he; rw [rawS_k he hb]; exact ⟨rfl, take_len hb, take_sim l (mx n)⟩)
    | exact Nat.le_trans (List.length_take_le' _ _) h
    | exact take_len hb
    | exact take_sim l (mx n)) : P := h
theorem qSc15R2 {P : Prop} (h : P := by
  all_goals try exact qco0
  all_goals (by_cases g1 : e1 = 0 <;> by_cases g2 : (mx most : Int) < n <;> by_cases g3 : (l1.length : Int) < n)
  all_goals try (exfalso; omega)
  all_goals first
    | exact hwn (Int.not_lt.1 g2)
    | (rw [if_pos g1]; first | exact rfl | exact ⟨⟨⟨rfl, rfl, fun _ _ => A.sim.refl _⟩, ⟨rfl, rfl⟩, trivial⟩, trivial⟩)
    | (rw [if_neg (not_not_intro g1), if_pos g2]; first | exact rfl | exact ⟨⟨⟨rfl, rfl, fun _ _ => A.sim.refl _⟩, ⟨rfl, rfl⟩, trivial⟩, trivial⟩)
    | (rw [if_neg (not_not_intro g1), if_neg g2, rawS_n g1 f1.1 g3]; first | exact rfl | exact ⟨⟨⟨rfl, rfl, fun _ _ => A.sim.refl _⟩, ⟨rfl, rfl⟩, trivial⟩, trivial⟩ | exact ⟨rfl, rfl, fun _ _ => A.sim.refl _⟩)
    | (rw [if_neg (not_not_intro g1), if_neg g2]; first | exact ⟨⟨⟨rfl, rfl, fun _ _ => A.sim.refl _⟩, ⟨rfl, rfl⟩, trivial⟩, trivial⟩ | exact ⟨rfl, rfl, fun _ _ => A.sim.refl _⟩)) : P := h
theorem qSc15R3 {P : Prop} (h : P := by
  refine W.run TOK 11 hΓ 1000 ?_
  conv => whnf
  refine ⟨?_, ?_⟩
  repeat' first
    | assumption
    | exact Bool.noConfusion hb
    | exact absurd hb (by decide)
    | (apply W.atEnd (π := [(1000, 1000)]) (r' := [(1000, some (rd [] e))]) TOK; refine ⟨rfl, rfl, rfl, rfl, ⟨rfl, rfl⟩, ?_, ?_, ?_⟩)
    | ((first | refine W.branch rfl (fun hb => ?_) (fun hb => ?_) | refine D.branch rfl (fun hb => ?_) (fun hb => ?_)) <;> ((try simp only [qhb, addI, reduceCtorEq, Int.reduceToNat] at hb); (try replace hb := of_decide_eq_true hb); (try replace hb := of_decide_eq_false hb)))
    | (refine W.go TOK 11 hΓ 1000 rfl ?_; (conv => whnf); refine ⟨?_, ?_⟩)
    | (refine D.go TOK 11 hΓ 1000 rfl ?_; (conv => whnf); refine ⟨?_, ?_⟩)
    | (refine W.drawn rfl rfl ?_; refine D.run TOK 11 hΓ 1000 ?_; (conv => whnf); refine ⟨?_, ?_⟩)
  all_goals try exact qco0
  all_goals trace_state) : P := h
theorem clone_does (l : List UInt8) (h : l.length ≤ 1000000000000) : Does Try.prog 57 [bytesA l] [] [1] (Is (.own 1 1 0 l.length) [(1, some (.arr 1 l.length (byteAt l)))]) := by
  refine Does.intro (fn := Try.f57) Try.func57 rfl rfl fun Γ hΓ => ?_
  refine W.run TOK 8 hΓ 1000 ?_
  conv => whnf
  refine ⟨trivial, ?_⟩
  refine W.isNil TOK (nt := 8) hΓ rfl rfl rfl rfl (fun b hb0 => ?_)
  refine W.go TOK 8 hΓ 1000 rfl ?_
  conv => whnf
  refine ⟨trivial, ?_⟩
  refine W.branch rfl (fun hb => ?_) (fun hb => ?_)
  · have hl := List.eq_nil_of_length_eq_zero (hb0 hb)
    subst hl
    refine W.addNil 7 1 (byteAt []) rfl ?_
    repeat' first
      | assumption
      | exact Bool.noConfusion hb
      | exact absurd hb (by decide)
      | (apply W.atRet (π := [(1, 7)]) (r' := [(1, some (.arr 1 0 (byteAt [])))]) TOK; refine ⟨rfl, rfl, rfl, rfl, ⟨rfl, rfl⟩, ?_, ?_, ?_⟩)
      | ((first | refine W.branch rfl (fun hb => ?_) (fun hb => ?_) | refine D.branch rfl (fun hb => ?_) (fun hb => ?_)) <;> ((try simp only [qhb, addI, reduceCtorEq, Int.reduceToNat] at hb); (try replace hb := of_decide_eq_true hb); (try replace hb := of_decide_eq_false hb)))
      | (refine W.go TOK 8 hΓ 1000 rfl ?_; (conv => whnf); refine ⟨?_, ?_⟩)
      | (refine D.go TOK 8 hΓ 1000 rfl ?_; (conv => whnf); refine ⟨?_, ?_⟩)
      | (refine W.drawn rfl rfl ?_; refine D.run TOK 8 hΓ 1000 ?_; (conv => whnf); refine ⟨?_, ?_⟩)
    all_goals first
      | exact trivial
      | exact ⟨rfl, rfl, rfl, rfl⟩
      | exact rfl
      | exact ⟨⟨rfl, Nat.le_refl _, fun _ _ => .refl _⟩, trivial⟩
  repeat' first
    | assumption
    | exact Bool.noConfusion hb
    | exact absurd hb (by decide)
    | (apply W.atRet (π := [(1, 7)]) (r' := [(1, some (.arr 1 l.length (byteAt l)))]) TOK; refine ⟨rfl, rfl, rfl, rfl, ⟨rfl, rfl⟩, ?_, ?_, ?_⟩)
    | ((first | refine W.branch rfl (fun hb => ?_) (fun hb => ?_) | refine D.branch rfl (fun hb => ?_) (fun hb => ?_)) <;> ((try simp only [qhb, addI, reduceCtorEq, Int.reduceToNat] at hb); (try replace hb := of_decide_eq_true hb); (try replace hb := of_decide_eq_false hb)))
    | (refine W.go TOK 8 hΓ 1000 rfl ?_; (conv => whnf); refine ⟨?_, ?_⟩)
    | (refine D.go TOK 8 hΓ 1000 rfl ?_; (conv => whnf); refine ⟨?_, ?_⟩)
    | (refine W.drawn rfl rfl ?_; refine D.run TOK 8 hΓ 1000 ?_; (conv => whnf); refine ⟨?_, ?_⟩)
  all_goals try exact qco0
  all_goals try (exact ⟨rfl, rfl, rfl, (Nat.zero_add _).symm⟩)
  all_goals try (exact ⟨⟨rfl, Nat.le_of_eq (Nat.zero_add _).symm, fun j hj => cat_sim (l := []) (m := l) rfl (fun i hi => absurd hi (Nat.not_lt_zero i)) (fun _ _ => rfl) (by simpa using hj)⟩, trivial⟩)

theorem fail_does (l : List UInt8) (e0 e : Int) : Does Try.prog 63 [.ptr 1000 [], .int .i64 e] [(1000, some (rd l e0))] [] (Is (.tup []) [(1000, some (rd [] e))]) := by
  refine Does.intro (fn := Try.f63) Try.func63 rfl rfl fun Γ hΓ => ?_
  exact qSc15R3

theorem rfail_does (l : List UInt8) (e0 e : Int) : Does Try.prog 86 [.ptr 1000 [], .int .i64 e] [(1000, some (rd l e0))] [] (Is (.tup []) [(1000, some (rd [] e))]) := by
  refine Does.intro (fn := Try.f86) Try.func86 rfl rfl fun Γ hΓ => ?_
  exact qSc15R3

theorem new_does (l : List UInt8) (h : l.length ≤ 1000000000000) : Does Try.prog 37 [bytesA l] [] [1] (Is (.ptr 1 []) [(1, some (rd l 0))]) := by
  refine Does.intro (fn := Try.f37) Try.func37 rfl rfl fun Γ hΓ => ?_
  refine W.run TOK 7 hΓ 1000 ?_
  conv => whnf
  refine ⟨?_, ?_⟩
  repeat' first
    | assumption
    | exact Bool.noConfusion hb
    | exact absurd hb (by decide)
    | (apply W.atRet (π := [(1, 6)]) (r' := [(1, some (rd l 0))]) TOK; refine ⟨rfl, rfl, rfl, rfl, ⟨rfl, rfl⟩, ?_, ?_, ?_⟩)
    | ((first | refine W.branch rfl (fun hb => ?_) (fun hb => ?_) | refine D.branch rfl (fun hb => ?_) (fun hb => ?_)) <;> ((try simp only [qhb, addI, reduceCtorEq, Int.reduceToNat] at hb); (try replace hb := of_decide_eq_true hb); (try replace hb := of_decide_eq_false hb)))
    | (refine D.callZ (clone_does l h) rfl rfl rfl rfl [] [] [600] rfl rfl hΓ rfl ⟨⟨rfl, rfl, fun _ _ => .refl _⟩, trivial⟩ trivial (Nat.le_refl _) (.inl rfl) rfl ?_; (conv => whnf))
    | (refine W.callZ (clone_does l h) rfl rfl rfl rfl [] [] [600] rfl rfl hΓ rfl ⟨⟨rfl, rfl, fun _ _ => .refl _⟩, trivial⟩ trivial (Nat.le_refl _) (.inl rfl) ?_)
    | (refine W.go TOK 7 hΓ 1000 rfl ?_; (conv => whnf); refine ⟨?_, ?_⟩)
    | (refine D.go TOK 7 hΓ 1000 rfl ?_; (conv => whnf); refine ⟨?_, ?_⟩)
    | (refine W.drawn rfl rfl ?_; refine D.run TOK 7 hΓ 1000 ?_; (conv => whnf); refine ⟨?_, ?_⟩)
  all_goals try exact qco0
  all_goals exact ⟨⟨⟨rfl, rfl, fun _ _ => A.sim.refl _⟩, ⟨rfl, rfl⟩, trivial⟩, trivial⟩

theorem raw_does (l : List UInt8) (e n : Int) (h : l.length ≤ 1000000000000) : Does Try.prog 41 [.ptr 1000 [], .int .i64 n] [(1000, some (rd l e))] [] (Is (bytesA (rawS ⟨l, e⟩ n).1) [(1000, some (rawS ⟨l, e⟩ n).2.o)]) := by
  have hm := mx_eq n
  refine Does.intro (fn := Try.f41) Try.func41 rfl rfl fun Γ hΓ => ?_
  refine W.run TOK 41 hΓ 1000 ?_
  conv => whnf
  refine ⟨?_, ?_⟩
  repeat' first
    | assumption
    | exact Bool.noConfusion hb
    | exact absurd hb (by decide)
    | (apply W.atRet (π := [(1000, 1000)]) (r' := [(1000, some (rawS ⟨l, e⟩ n).2.o)]) TOK; refine ⟨rfl, rfl, rfl, rfl, ⟨rfl, rfl⟩, ?_, ?_, ?_⟩)
    | ((first | refine W.branch rfl (fun hb => ?_) (fun hb => ?_) | refine D.branch rfl (fun hb => ?_) (fun hb => ?_)) <;> ((try simp only [qhb, addI, reduceCtorEq, Int.reduceToNat] at hb); (try replace hb := of_decide_eq_true hb); (try replace hb := of_decide_eq_false hb)))
    | (refine D.callF (fail_does l e 21) rfl rfl rfl rfl [(1000, 1000)] [] [] rfl rfl hΓ rfl ⟨⟨rfl, rfl⟩, ⟨rfl, rfl⟩, trivial⟩ ⟨⟨⟨rfl, rfl, fun _ _ => A.sim.refl _⟩, ⟨rfl, rfl⟩, trivial⟩, trivial⟩ (.inl rfl) rfl ?_; (conv => whnf))
    | (refine W.callF (fail_does l e 21) rfl rfl rfl rfl [(1000, 1000)] [] [] rfl rfl hΓ rfl ⟨⟨rfl, rfl⟩, ⟨rfl, rfl⟩, trivial⟩ ⟨⟨⟨rfl, rfl, fun _ _ => A.sim.refl _⟩, ⟨rfl, rfl⟩, trivial⟩, trivial⟩ (.inl rfl) ?_)
    | (refine D.callZ (clone_does (l.take (mx n)) ?_) rfl rfl rfl rfl [] [] [600] rfl rfl hΓ rfl ⟨⟨rfl, ?_, ?_⟩, trivial⟩ trivial (Nat.le_refl _) (.inl rfl) rfl ?_; (conv => whnf))
    | (refine W.callZ (clone_does (l.take (mx n)) ?_) rfl rfl rfl rfl [] [] [600] rfl rfl hΓ rfl ⟨⟨rfl, ?_, ?_⟩, trivial⟩ trivial (Nat.le_refl _) (.inl rfl) ?_)
    | (refine W.go TOK 41 hΓ 1000 rfl ?_; (conv => whnf); refine ⟨?_, ?_⟩)
    | (refine D.go TOK 41 hΓ 1000 rfl ?_; (conv => whnf); refine ⟨?_, ?_⟩)
    | (refine W.drawn rfl rfl ?_; refine D.run TOK 41 hΓ 1000 ?_; (conv => whnf); refine ⟨?_, ?_⟩)
  all_goals exact qSc15R1

theorem rraw_does (l : List UInt8) (e n : Int) (h : l.length ≤ 1000000000000) : Does Try.prog 68 [.ptr 1000 [], .int .i64 n] [(1000, some (rd l e))] [] (Is (bytesA (rawS ⟨l, e⟩ n).1) [(1000, some (rawS ⟨l, e⟩ n).2.o)]) := by
  have hm := mx_eq n
  refine Does.intro (fn := Try.f68) Try.func68 rfl rfl fun Γ hΓ => ?_
  refine W.run TOK 38 hΓ 1000 ?_
  conv => whnf
  refine ⟨?_, ?_⟩
  repeat' first
    | assumption
    | exact Bool.noConfusion hb
    | exact absurd hb (by decide)
    | (apply W.atRet (π := [(1000, 1000)]) (r' := [(1000, some (rawS ⟨l, e⟩ n).2.o)]) TOK; refine ⟨rfl, rfl, rfl, rfl, ⟨rfl, rfl⟩, ?_, ?_, ?_⟩)
    | ((first | refine W.branch rfl (fun hb => ?_) (fun hb => ?_) | refine D.branch rfl (fun hb => ?_) (fun hb => ?_)) <;> ((try simp only [qhb, addI, reduceCtorEq, Int.reduceToNat] at hb); (try replace hb := of_decide_eq_true hb); (try replace hb := of_decide_eq_false hb)))
    | (refine D.callF (rfail_does l e 21) rfl rfl rfl rfl [(1000, 1000)] [] [] rfl rfl hΓ rfl ⟨⟨rfl, rfl⟩, ⟨rfl, rfl⟩, trivial⟩ ⟨⟨⟨rfl, rfl, fun _ _ => A.sim.refl _⟩, ⟨rfl, rfl⟩, trivial⟩, trivial⟩ (.inl rfl) rfl ?_; (conv => whnf))
    | (refine W.callF (rfail_does l e 21) rfl rfl rfl rfl [(1000, 1000)] [] [] rfl rfl hΓ rfl ⟨⟨rfl, rfl⟩, ⟨rfl, rfl⟩, trivial⟩ ⟨⟨⟨rfl, rfl, fun _ _ => A.sim.refl _⟩, ⟨rfl, rfl⟩, trivial⟩, trivial⟩ (.inl rfl) ?_)
    | (refine D.callZ (clone_does (l.take (mx n)) ?_) rfl rfl rfl rfl [] [] [600] rfl rfl hΓ rfl ⟨⟨rfl, ?_, ?_⟩, trivial⟩ trivial (Nat.le_refl _) (.inl rfl) rfl ?_; (conv => whnf))
    | (refine W.callZ (clone_does (l.take (mx n)) ?_) rfl rfl rfl rfl [] [] [600] rfl rfl hΓ rfl ⟨⟨rfl, ?_, ?_⟩, trivial⟩ trivial (Nat.le_refl _) (.inl rfl) ?_)
    | (refine W.go TOK 38 hΓ 1000 rfl ?_; (conv => whnf); refine ⟨?_, ?_⟩)
    | (refine D.go TOK 38 hΓ 1000 rfl ?_; (conv => whnf); refine ⟨?_, ?_⟩)
    | (refine W.drawn rfl rfl ?_; refine D.run TOK 38 hΓ 1000 ?_; (conv => whnf); refine ⟨?_, ?_⟩)
  all_goals exact qSc15R1

def Sb1 (q l1 : List UInt8) (e1 : Int) (i : Nat) : St := ⟨[(3, .int .u64 (leN (q.take i) : Nat)), (7, bytesA q), (8, .int .i64 q.length), (9, .int .i64 i)], [(1000, some (rd l1 e1))], [1000]⟩
theorem getn_does (l : List UInt8) (e : Int) (h : l.length ≤ 1000000000000) : Does Try.prog 39 [.ptr 1000 []] [(1000, some (rd l e))] [] (Is (.int .u64 (numR ⟨l, e⟩).1) [(1000, some (numR ⟨l, e⟩).2.o)]) := by
  obtain ⟨f1, f2, f3, f4⟩ := rawS_facts ⟨l, e⟩ 8
  have hr := raw_does l e 8 h
  unfold numR
  generalize rawS ⟨l, e⟩ 8 = p at *
  obtain ⟨q, l1, e1⟩ := p
  dsimp only [Rd.o] at *
  have f1 : q.length ≤ 8 := f1
  refine Does.intro (fn := Try.f39) Try.func39 rfl rfl fun Γ hΓ => ?_
  refine W.run TOK 23 hΓ 1000 ?_
  conv => whnf
  refine ⟨?_, ?_⟩
  repeat' first
    | assumption
    | exact Bool.noConfusion hb
    | exact absurd hb (by decide)
    | (apply W.atRet (π := []) (r' := []) TOK; refine ⟨rfl, rfl, rfl, rfl, ⟨rfl, rfl⟩, ?_, ?_, ?_⟩)
    | ((first | refine W.branch rfl (fun hb => ?_) (fun hb => ?_) | refine D.branch rfl (fun hb => ?_) (fun hb => ?_)) <;> ((try simp only [qhb, addI, reduceCtorEq, Int.reduceToNat] at hb); (try replace hb := of_decide_eq_true hb); (try replace hb := of_decide_eq_false hb)))
    | (refine D.callF (hr) rfl rfl rfl rfl [(1000, 1000)] [] [] rfl rfl hΓ rfl ⟨⟨rfl, rfl⟩, ⟨rfl, rfl⟩, trivial⟩ ⟨⟨⟨rfl, rfl, fun _ _ => A.sim.refl _⟩, ⟨rfl, rfl⟩, trivial⟩, trivial⟩ (.inl rfl) rfl ?_; (conv => whnf))
    | (refine W.callF (hr) rfl rfl rfl rfl [(1000, 1000)] [] [] rfl rfl hΓ rfl ⟨⟨rfl, rfl⟩, ⟨rfl, rfl⟩, trivial⟩ ⟨⟨⟨rfl, rfl, fun _ _ => A.sim.refl _⟩, ⟨rfl, rfl⟩, trivial⟩, trivial⟩ (.inl rfl) ?_)
    | (refine W.go TOK 23 hΓ 1000 rfl ?_; (conv => whnf); refine ⟨?_, ?_⟩)
    | (refine D.go TOK 23 hΓ 1000 rfl ?_; (conv => whnf); refine ⟨?_, ?_⟩)
    | (refine W.drawn rfl rfl ?_; refine D.run TOK 23 hΓ 1000 ?_; (conv => whnf); refine ⟨?_, ?_⟩)
  all_goals try exact qco0
  refine W.loop (fun i => i ≤ q.length) (fun i => q.length - i) (Sb1 q l1 e1) 0 (Nat.zero_le _) (Weak.via [(1000, 1000)] rfl rfl rfl ⟨⟨rfl, rfl⟩, ⟨rfl, rfl, fun _ _ => A.sim.refl _⟩, ⟨rfl, rfl⟩, ⟨rfl, rfl⟩, trivial⟩ ⟨⟨⟨rfl, rfl, fun _ _ => A.sim.refl _⟩, ⟨rfl, rfl⟩, trivial⟩, trivial⟩) ?_
  intro i hi ih
  have hw : i < q.length → bitsI .or .u64 ((leN (q.take i) : Nat) : Int) (shlI .u64 (IntKind.u64.wrap ((q.getD i 0).toNat : Int)) (8 * (i : Int))) = ((leN (q.take (i + 1)) : Nat) : Int) := fun h => le_step q i h (by omega)
  dsimp only [Sb1]
  refine W.run TOK 23 hΓ 1000 ?_
  conv => whnf
  refine ⟨?_, ?_⟩
  repeat' first
    | assumption
    | exact Bool.noConfusion hb
    | exact absurd hb (by decide)
    | (refine W.to (ih (i + 1) ?_ ?_) (Weak.via [(1000, 1000)] rfl rfl rfl ⟨⟨rfl, hw (by omega)⟩, ⟨rfl, rfl, fun _ _ => A.sim.refl _⟩, ⟨rfl, rfl⟩, ⟨rfl, rfl⟩, trivial⟩ ⟨⟨⟨rfl, rfl, fun _ _ => A.sim.refl _⟩, ⟨rfl, rfl⟩, trivial⟩, trivial⟩))
    | (apply W.atRet (π := [(1000, 1000)]) (r' := [(1000, some (rd l1 e1))]) TOK; refine ⟨rfl, rfl, rfl, rfl, ⟨rfl, rfl⟩, ?_, ?_, ?_⟩)
    | ((first | refine W.branch rfl (fun hb => ?_) (fun hb => ?_) | refine D.branch rfl (fun hb => ?_) (fun hb => ?_)) <;> ((try simp only [qhb, addI, reduceCtorEq, Int.reduceToNat] at hb); (try replace hb := of_decide_eq_true hb); (try replace hb := of_decide_eq_false hb)))
    | (refine W.go TOK 23 hΓ 1000 rfl ?_; (conv => whnf); refine ⟨?_, ?_⟩)
    | (refine D.go TOK 23 hΓ 1000 rfl ?_; (conv => whnf); refine ⟨?_, ?_⟩)
    | (refine W.drawn rfl rfl ?_; refine D.run TOK 23 hΓ 1000 ?_; (conv => whnf); refine ⟨?_, ?_⟩)
  all_goals try exact qco0
  all_goals try (exact ⟨rfl, by
    have : i = q.length := by omega
    subst this
    rw [List.take_length]⟩)
  all_goals exact ⟨⟨⟨rfl, rfl, fun _ _ => A.sim.refl _⟩, ⟨rfl, rfl⟩, trivial⟩, trivial⟩

theorem rgetn_does (l : List UInt8) (e : Int) (h : l.length ≤ 1000000000000) : Does Try.prog 47 [.ptr 1000 []] [(1000, some (rd l e))] [] (Is (.int .u64 (numR ⟨l, e⟩).1) [(1000, some (numR ⟨l, e⟩).2.o)]) := by
  obtain ⟨f1, f2, f3, f4⟩ := rawS_facts ⟨l, e⟩ 8
  have hr := rraw_does l e 8 h
  unfold numR
  generalize rawS ⟨l, e⟩ 8 = p at *
  obtain ⟨q, l1, e1⟩ := p
  dsimp only [Rd.o] at *
  have f1 : q.length ≤ 8 := f1
  refine Does.intro (fn := Try.f47) Try.func47 rfl rfl fun Γ hΓ => ?_
  refine W.run TOK 13 hΓ 1000 ?_
  conv => whnf
  refine ⟨?_, ?_⟩
  repeat' first
    | assumption
    | exact Bool.noConfusion hb
    | exact absurd hb (by decide)
    | (apply W.atRet (π := [(1000, 1000)]) (r' := [(1000, some (rd l1 e1))]) TOK; refine ⟨rfl, rfl, rfl, rfl, ⟨rfl, rfl⟩, ?_, ?_, ?_⟩)
    | ((first | refine W.branch rfl (fun hb => ?_) (fun hb => ?_) | refine D.branch rfl (fun hb => ?_) (fun hb => ?_)) <;> ((try simp only [qhb, addI, reduceCtorEq, Int.reduceToNat] at hb); (try replace hb := of_decide_eq_true hb); (try replace hb := of_decide_eq_false hb)))
    | (refine D.callF (hr) rfl rfl rfl rfl [(1000, 1000)] [] [] rfl rfl hΓ rfl ⟨⟨rfl, rfl⟩, ⟨rfl, rfl⟩, trivial⟩ ⟨⟨⟨rfl, rfl, fun _ _ => A.sim.refl _⟩, ⟨rfl, rfl⟩, trivial⟩, trivial⟩ (.inl rfl) rfl ?_; (conv => whnf))
    | (refine W.callF (hr) rfl rfl rfl rfl [(1000, 1000)] [] [] rfl rfl hΓ rfl ⟨⟨rfl, rfl⟩, ⟨rfl, rfl⟩, trivial⟩ ⟨⟨⟨rfl, rfl, fun _ _ => A.sim.refl _⟩, ⟨rfl, rfl⟩, trivial⟩, trivial⟩ (.inl rfl) ?_)
    | (refine D.callF (rword_does q ?_) rfl rfl rfl rfl [] [] [] rfl rfl hΓ rfl ⟨⟨rfl, rfl, fun _ _ => A.sim.refl _⟩, trivial⟩ trivial (.inl rfl) rfl ?_; (conv => whnf))
    | (refine W.callF (rword_does q ?_) rfl rfl rfl rfl [] [] [] rfl rfl hΓ rfl ⟨⟨rfl, rfl, fun _ _ => A.sim.refl _⟩, trivial⟩ trivial (.inl rfl) ?_)
    | (refine W.go TOK 13 hΓ 1000 rfl ?_; (conv => whnf); refine ⟨?_, ?_⟩)
    | (refine D.go TOK 13 hΓ 1000 rfl ?_; (conv => whnf); refine ⟨?_, ?_⟩)
    | (refine W.drawn rfl rfl ?_; refine D.run TOK 13 hΓ 1000 ?_; (conv => whnf); refine ⟨?_, ?_⟩)
  all_goals try exact qco0
  all_goals first
    | exact ⟨⟨⟨rfl, rfl, fun _ _ => A.sim.refl _⟩, ⟨rfl, rfl⟩, trivial⟩, trivial⟩
    | exact f2 hb
    | (have := f3 hb; subst this; exact ⟨rfl, rfl⟩)
    | exact ⟨rfl, rfl⟩

theorem getl_does (l : List UInt8) (e most : Int) (h : l.length ≤ 1000000000000) (hi : inr .i64 most) : Does Try.prog 59 [.ptr 1000 [], .int .i64 most] [(1000, some (rd l e))] [] (Is (bytesA (lumpR ⟨l, e⟩ most).1) [(1000, some (lumpR ⟨l, e⟩ most).2.o)]) := by
  have hm := mx_eq most
  rw [inr_i64] at hi
  have hmu : IntKind.u64.wrap (if most < 0 then 0 else most) = (mx most : Int) := by rw [hm]; exact wrap_u64_in (by omega) (by omega)
  obtain ⟨f1, f2⟩ := numR_facts ⟨l, e⟩
  have hr := getn_does l e h
  unfold lumpR
  generalize numR ⟨l, e⟩ = p at *
  obtain ⟨n, l1, e1⟩ := p
  rw [inr_u64] at f1
  dsimp only [Rd.o] at *
  have h1 : l1.length ≤ 1000000000000 := Nat.le_trans f2 h
  have hmb : (mx most : Int) ≤ 9223372036854775807 := by rw [← hm]; split <;> omega
  have hwn : n ≤ mx most → IntKind.i64.wrap n = n := fun h => wrap_i64_in (by omega) (by omega)
  have hl1 : IntKind.u64.wrap (l1.length : Int) = (l1.length : Int) := wrap_u64_in (by omega) (by omega)
  refine Does.intro (fn := Try.f59) Try.func59 rfl rfl fun Γ hΓ => ?_
  refine W.run TOK 37 hΓ 1000 ?_
  conv => whnf
  refine ⟨?_, ?_⟩
  repeat' first
    | assumption
    | exact Bool.noConfusion hb
    | exact absurd hb (by decide)
    | (apply W.atRet (π := [(1000, 1000)]) (r' := [(1000, some (if e1 ≠ 0 then ([], ⟨l1, e1⟩) else if (mx most : Int) < n then ([], ⟨[], 22⟩) else rawS ⟨l1, e1⟩ n).2.o)]) TOK; refine ⟨rfl, rfl, rfl, rfl, ⟨rfl, rfl⟩, ?_, ?_, ?_⟩)
    | ((first | refine W.branch rfl (fun hb => ?_) (fun hb => ?_) | refine D.branch rfl (fun hb => ?_) (fun hb => ?_)) <;> ((try simp only [qhb, addI, reduceCtorEq, Int.reduceToNat] at hb); (try replace hb := of_decide_eq_true hb); (try replace hb := of_decide_eq_false hb)))
    | (refine D.callF (hr) rfl rfl rfl rfl [(1000, 1000)] [] [] rfl rfl hΓ rfl ⟨⟨rfl, rfl⟩, trivial⟩ ⟨⟨⟨rfl, rfl, fun _ _ => A.sim.refl _⟩, ⟨rfl, rfl⟩, trivial⟩, trivial⟩ (.inl rfl) rfl ?_; (conv => whnf))
    | (refine W.callF (hr) rfl rfl rfl rfl [(1000, 1000)] [] [] rfl rfl hΓ rfl ⟨⟨rfl, rfl⟩, trivial⟩ ⟨⟨⟨rfl, rfl, fun _ _ => A.sim.refl _⟩, ⟨rfl, rfl⟩, trivial⟩, trivial⟩ (.inl rfl) ?_)
    | (refine D.callF (fail_does l1 e1 22) rfl rfl rfl rfl [(1000, 1000)] [] [] rfl rfl hΓ rfl ⟨⟨rfl, rfl⟩, ⟨rfl, rfl⟩, trivial⟩ ⟨⟨⟨rfl, rfl, fun _ _ => A.sim.refl _⟩, ⟨rfl, rfl⟩, trivial⟩, trivial⟩ (.inl rfl) rfl ?_; (conv => whnf))
    | (refine W.callF (fail_does l1 e1 22) rfl rfl rfl rfl [(1000, 1000)] [] [] rfl rfl hΓ rfl ⟨⟨rfl, rfl⟩, ⟨rfl, rfl⟩, trivial⟩ ⟨⟨⟨rfl, rfl, fun _ _ => A.sim.refl _⟩, ⟨rfl, rfl⟩, trivial⟩, trivial⟩ (.inl rfl) ?_)
    | (refine D.callF (fail_does l1 e1 21) rfl rfl rfl rfl [(1000, 1000)] [] [] rfl rfl hΓ rfl ⟨⟨rfl, rfl⟩, ⟨rfl, rfl⟩, trivial⟩ ⟨⟨⟨rfl, rfl, fun _ _ => A.sim.refl _⟩, ⟨rfl, rfl⟩, trivial⟩, trivial⟩ (.inl rfl) rfl ?_; (conv => whnf))
    | (refine W.callF (fail_does l1 e1 21) rfl rfl rfl rfl [(1000, 1000)] [] [] rfl rfl hΓ rfl ⟨⟨rfl, rfl⟩, ⟨rfl, rfl⟩, trivial⟩ ⟨⟨⟨rfl, rfl, fun _ _ => A.sim.refl _⟩, ⟨rfl, rfl⟩, trivial⟩, trivial⟩ (.inl rfl) ?_)
    | (refine D.callF (raw_does l1 e1 n h1) rfl rfl rfl rfl [(1000, 1000)] [] [] rfl rfl hΓ rfl ⟨⟨rfl, rfl⟩, ⟨rfl, ?_⟩, trivial⟩ ⟨⟨⟨rfl, rfl, fun _ _ => A.sim.refl _⟩, ⟨rfl, rfl⟩, trivial⟩, trivial⟩ (.inl rfl) rfl ?_; (conv => whnf))
    | (refine W.callF (raw_does l1 e1 n h1) rfl rfl rfl rfl [(1000, 1000)] [] [] rfl rfl hΓ rfl ⟨⟨rfl, rfl⟩, ⟨rfl, ?_⟩, trivial⟩ ⟨⟨⟨rfl, rfl, fun _ _ => A.sim.refl _⟩, ⟨rfl, rfl⟩, trivial⟩, trivial⟩ (.inl rfl) ?_)
    | (refine W.go TOK 37 hΓ 1000 rfl ?_; (conv => whnf); refine ⟨?_, ?_⟩)
    | (refine D.go TOK 37 hΓ 1000 rfl ?_; (conv => whnf); refine ⟨?_, ?_⟩)
    | (refine W.drawn rfl rfl ?_; refine D.run TOK 37 hΓ 1000 ?_; (conv => whnf); refine ⟨?_, ?_⟩)
  all_goals exact qSc15R2

theorem rgetl_does (l : List UInt8) (e most : Int) (h : l.length ≤ 1000000000000) (hi : inr .i64 most) : Does Try.prog 69 [.ptr 1000 [], .int .i64 most] [(1000, some (rd l e))] [] (Is (bytesA (lumpR ⟨l, e⟩ most).1) [(1000, some (lumpR ⟨l, e⟩ most).2.o)]) := by
  have hm := mx_eq most
  rw [inr_i64] at hi
  have hmu : IntKind.u64.wrap (if most < 0 then 0 else most) = (mx most : Int) := by rw [hm]; exact wrap_u64_in (by omega) (by omega)
  obtain ⟨f1, f2⟩ := numR_facts ⟨l, e⟩
  have hr := rgetn_does l e h
  unfold lumpR
  generalize numR ⟨l, e⟩ = p at *
  obtain ⟨n, l1, e1⟩ := p
  rw [inr_u64] at f1
  dsimp only [Rd.o] at *
  have h1 : l1.length ≤ 1000000000000 := Nat.le_trans f2 h
  have hmb : (mx most : Int) ≤ 9223372036854775807 := by rw [← hm]; split <;> omega
  have hwn : n ≤ mx most → IntKind.i64.wrap n = n := fun h => wrap_i64_in (by omega) (by omega)
  have hl1 : IntKind.u64.wrap (l1.length : Int) = (l1.length : Int) := wrap_u64_in (by omega) (by omega)
  refine Does.intro (fn := Try.f69) Try.func69 rfl rfl fun Γ hΓ => ?_
  refine W.run TOK 24 hΓ 1000 ?_
  conv => whnf
  refine ⟨?_, ?_⟩
  repeat' first
    | assumption
    | exact Bool.noConfusion hb
    | exact absurd hb (by decide)
    | (apply W.atRet (π := [(1000, 1000)]) (r' := [(1000, some (if e1 ≠ 0 then ([], ⟨l1, e1⟩) else if (mx most : Int) < n then ([], ⟨[], 22⟩) else rawS ⟨l1, e1⟩ n).2.o)]) TOK; refine ⟨rfl, rfl, rfl, rfl, ⟨rfl, rfl⟩, ?_, ?_, ?_⟩)
    | ((first | refine W.branch rfl (fun hb => ?_) (fun hb => ?_) | refine D.branch rfl (fun hb => ?_) (fun hb => ?_)) <;> ((try simp only [qhb, addI, reduceCtorEq, Int.reduceToNat] at hb); (try replace hb := of_decide_eq_true hb); (try replace hb := of_decide_eq_false hb)))
    | (refine D.callF (hr) rfl rfl rfl rfl [(1000, 1000)] [] [] rfl rfl hΓ rfl ⟨⟨rfl, rfl⟩, trivial⟩ ⟨⟨⟨rfl, rfl, fun _ _ => A.sim.refl _⟩, ⟨rfl, rfl⟩, trivial⟩, trivial⟩ (.inl rfl) rfl ?_; (conv => whnf))
    | (refine W.callF (hr) rfl rfl rfl rfl [(1000, 1000)] [] [] rfl rfl hΓ rfl ⟨⟨rfl, rfl⟩, trivial⟩ ⟨⟨⟨rfl, rfl, fun _ _ => A.sim.refl _⟩, ⟨rfl, rfl⟩, trivial⟩, trivial⟩ (.inl rfl) ?_)
    | (refine D.callF (rfail_does l1 e1 22) rfl rfl rfl rfl [(1000, 1000)] [] [] rfl rfl hΓ rfl ⟨⟨rfl, rfl⟩, ⟨rfl, rfl⟩, trivial⟩ ⟨⟨⟨rfl, rfl, fun _ _ => A.sim.refl _⟩, ⟨rfl, rfl⟩, trivial⟩, trivial⟩ (.inl rfl) rfl ?_; (conv => whnf))
    | (refine W.callF (rfail_does l1 e1 22) rfl rfl rfl rfl [(1000, 1000)] [] [] rfl rfl hΓ rfl ⟨⟨rfl, rfl⟩, ⟨rfl, rfl⟩, trivial⟩ ⟨⟨⟨rfl, rfl, fun _ _ => A.sim.refl _⟩, ⟨rfl, rfl⟩, trivial⟩, trivial⟩ (.inl rfl) ?_)
    | (refine D.callF (rfail_does l1 e1 21) rfl rfl rfl rfl [(1000, 1000)] [] [] rfl rfl hΓ rfl ⟨⟨rfl, rfl⟩, ⟨rfl, rfl⟩, trivial⟩ ⟨⟨⟨rfl, rfl, fun _ _ => A.sim.refl _⟩, ⟨rfl, rfl⟩, trivial⟩, trivial⟩ (.inl rfl) rfl ?_; (conv => whnf))
    | (refine W.callF (rfail_does l1 e1 21) rfl rfl rfl rfl [(1000, 1000)] [] [] rfl rfl hΓ rfl ⟨⟨rfl, rfl⟩, ⟨rfl, rfl⟩, trivial⟩ ⟨⟨⟨rfl, rfl, fun _ _ => A.sim.refl _⟩, ⟨rfl, rfl⟩, trivial⟩, trivial⟩ (.inl rfl) ?_)
    | (refine D.callF (rraw_does l1 e1 n h1) rfl rfl rfl rfl [(1000, 1000)] [] [] rfl rfl hΓ rfl ⟨⟨rfl, rfl⟩, ⟨rfl, ?_⟩, trivial⟩ ⟨⟨⟨rfl, rfl, fun _ _ => A.sim.refl _⟩, ⟨rfl, rfl⟩, trivial⟩, trivial⟩ (.inl rfl) rfl ?_; (conv => whnf))
    | (refine W.callF (rraw_does l1 e1 n h1) rfl rfl rfl rfl [(1000, 1000)] [] [] rfl rfl hΓ rfl ⟨⟨rfl, rfl⟩, ⟨rfl, ?_⟩, trivial⟩ ⟨⟨⟨rfl, rfl, fun _ _ => A.sim.refl _⟩, ⟨rfl, rfl⟩, trivial⟩, trivial⟩ (.inl rfl) ?_)
    | (refine W.go TOK 24 hΓ 1000 rfl ?_; (conv => whnf); refine ⟨?_, ?_⟩)
    | (refine D.go TOK 24 hΓ 1000 rfl ?_; (conv => whnf); refine ⟨?_, ?_⟩)
    | (refine W.drawn rfl rfl ?_; refine D.run TOK 24 hΓ 1000 ?_; (conv => whnf); refine ⟨?_, ?_⟩)
  all_goals exact qSc15R2

theorem err_does (l : List UInt8) (e : Int) : Does Try.prog 61 [.ptr 1000 []] [(1000, some (rd l e))] [] (Is (.int .i64 e) [(1000, some (rd l e))]) := by
  refine Does.intro (fn := Try.f61) Try.func61 rfl rfl fun Γ hΓ => ?_
  refine W.run TOK 7 hΓ 1000 ?_
  conv => whnf
  refine ⟨?_, ?_⟩
  repeat' first
    | assumption
    | exact Bool.noConfusion hb
    | exact absurd hb (by decide)
    | (apply W.atRet (π := [(1000, 1000)]) (r' := [(1000, some (rd l e))]) TOK; refine ⟨rfl, rfl, rfl, rfl, ⟨rfl, rfl⟩, ?_, ?_, ?_⟩)
    | ((first | refine W.branch rfl (fun hb => ?_) (fun hb => ?_) | refine D.branch rfl (fun hb => ?_) (fun hb => ?_)) <;> ((try simp only [qhb, addI, reduceCtorEq, Int.reduceToNat] at hb); (try replace hb := of_decide_eq_true hb); (try replace hb := of_decide_eq_false hb)))
    | (refine W.go TOK 7 hΓ 1000 rfl ?_; (conv => whnf); refine ⟨?_, ?_⟩)
    | (refine D.go TOK 7 hΓ 1000 rfl ?_; (conv => whnf); refine ⟨?_, ?_⟩)
    | (refine W.drawn rfl rfl ?_; refine D.run TOK 7 hΓ 1000 ?_; (conv => whnf); refine ⟨?_, ?_⟩)
  all_goals try exact qco0
  all_goals first
    | exact ⟨⟨⟨rfl, rfl, fun _ _ => A.sim.refl _⟩, ⟨rfl, rfl⟩, trivial⟩, trivial⟩
    | exact ⟨rfl, rfl⟩

theorem left_does (l : List UInt8) (e : Int) : Does Try.prog 42 [.ptr 1000 []] [(1000, some (rd l e))] [] (Is (.int .i64 l.length) [(1000, some (rd l e))]) := by
  refine Does.intro (fn := Try.f42) Try.func42 rfl rfl fun Γ hΓ => ?_
  refine W.run TOK 8 hΓ 1000 ?_
  conv => whnf
  refine ⟨?_, ?_⟩
  repeat' first
    | assumption
    | exact Bool.noConfusion hb
    | exact absurd hb (by decide)
    | (apply W.atRet (π := [(1000, 1000)]) (r' := [(1000, some (rd l e))]) TOK; refine ⟨rfl, rfl, rfl, rfl, ⟨rfl, rfl⟩, ?_, ?_, ?_⟩)
    | ((first | refine W.branch rfl (fun hb => ?_) (fun hb => ?_) | refine D.branch rfl (fun hb => ?_) (fun hb => ?_)) <;> ((try simp only [qhb, addI, reduceCtorEq, Int.reduceToNat] at hb); (try replace hb := of_decide_eq_true hb); (try replace hb := of_decide_eq_false hb)))
    | (refine W.go TOK 8 hΓ 1000 rfl ?_; (conv => whnf); refine ⟨?_, ?_⟩)
    | (refine D.go TOK 8 hΓ 1000 rfl ?_; (conv => whnf); refine ⟨?_, ?_⟩)
    | (refine W.drawn rfl rfl ?_; refine D.run TOK 8 hΓ 1000 ?_; (conv => whnf); refine ⟨?_, ?_⟩)
  all_goals try exact qco0
  all_goals first
    | exact ⟨⟨⟨rfl, rfl, fun _ _ => A.sim.refl _⟩, ⟨rfl, rfl⟩, trivial⟩, trivial⟩
    | exact ⟨rfl, rfl⟩

theorem grow0_does : Does Try.prog 96 [.nils, .int .i64 0] [] [1] (Is (.own 1 1 0 0) [(1, some (.arr 1 0 (byteAt [])))]) := by
  have hnn : ¬ ((0 : Int) < 0) := by decide
  have hnp : ¬ ((0 : Int) - 0 > 0) := by decide
  refine Does.intro (fn := Try.f96) Try.func96 rfl rfl fun Γ hΓ => ?_
  refine W.addNil 700 1 (byteAt []) rfl ?_
  refine W.run TOK 27 hΓ 1000 ?_
  conv => whnf
  refine ⟨?_, ?_⟩
  repeat' first
    | assumption
    | exact Bool.noConfusion hb
    | exact absurd hb (by decide)
    | exact absurd hb hnn
    | exact absurd hb hnp
    | (refine W.capNil TOK (nt := 27) hΓ rfl rfl rfl rfl rfl rfl ?_)
    | (apply W.atRet (π := [(1, 700)]) (r' := [(1, some (.arr 1 0 (byteAt [])))]) TOK; refine ⟨rfl, rfl, rfl, rfl, ⟨rfl, rfl⟩, ?_, ?_, ?_⟩)
    | ((first | refine W.branch rfl (fun hb => ?_) (fun hb => ?_) | refine D.branch rfl (fun hb => ?_) (fun hb => ?_)) <;> ((try simp only [qhb, addI, reduceCtorEq, Int.reduceToNat] at hb); (try replace hb := of_decide_eq_true hb); (try replace hb := of_decide_eq_false hb)))
    | (refine W.go TOK 27 hΓ 1000 rfl ?_; (conv => whnf); refine ⟨?_, ?_⟩)
    | (refine D.go TOK 27 hΓ 1000 rfl ?_; (conv => whnf); refine ⟨?_, ?_⟩)
    | (refine W.drawn rfl rfl ?_; refine D.run TOK 27 hΓ 1000 ?_; (conv => whnf); refine ⟨?_, ?_⟩)
  all_goals try exact qco0
  all_goals first
    | exact trivial
    | exact ⟨rfl, rfl, rfl, rfl⟩
    | exact ⟨⟨rfl, Nat.le_refl _, fun _ h => absurd h (Nat.not_lt_zero _)⟩, trivial⟩
    | omega
    | trace_state

theorem grow_does (n : Nat) (h0 : 0 < n) (h : n ≤ 1000000000000) : Does Try.prog 96 [.nils, .int .i64 n] [] [1] (Is (.own 1 1 0 0) [(1, some (.arr 1 0 (byteAt [])))]) := by
  have hnn : ¬ ((n : Int) < 0) := by omega
  have hnp : ¬ ((n : Int) ≤ 0) := by omega
  refine Does.intro (fn := Try.f96) Try.func96 rfl rfl fun Γ hΓ => ?_
  refine W.run TOK 27 hΓ 1000 ?_
  conv => whnf
  refine ⟨?_, ?_⟩
  repeat' first
    | assumption
    | exact Bool.noConfusion hb
    | exact absurd hb (by decide)
    | exact absurd hb hnn
    | exact absurd hb hnp
    | (refine W.capNil TOK (nt := 27) hΓ rfl rfl rfl rfl rfl rfl ?_)
    | (refine W.appZero TOK (nt := 27) hΓ rfl rfl rfl rfl rfl rfl (n := n) ?_ rfl rfl rfl ?_ Nat.zero_lt_one ?_ ?_ ?_ (nm := 700) rfl (byteAt []) ?_)
    | (apply W.atRet (π := [(1, 700)]) (r' := [(1, some (.arr 1 0 (byteAt [])))]) TOK; refine ⟨rfl, rfl, rfl, rfl, ⟨rfl, rfl⟩, ?_, ?_, ?_⟩)
    | ((first | refine W.branch rfl (fun hb => ?_) (fun hb => ?_) | refine D.branch rfl (fun hb => ?_) (fun hb => ?_)) <;> ((try simp only [qhb, addI, reduceCtorEq, Int.reduceToNat] at hb); (try replace hb := of_decide_eq_true hb); (try replace hb := of_decide_eq_false hb)))
    | (refine W.go TOK 27 hΓ 1000 rfl ?_; (conv => whnf); refine ⟨?_, ?_⟩)
    | (refine D.go TOK 27 hΓ 1000 rfl ?_; (conv => whnf); refine ⟨?_, ?_⟩)
    | (refine W.drawn rfl rfl ?_; refine D.run TOK 27 hΓ 1000 ?_; (conv => whnf); refine ⟨?_, ?_⟩)
  all_goals try exact qco0
  all_goals first
    | exact trivial
    | exact ⟨rfl, rfl, rfl, rfl⟩
    | exact ⟨⟨rfl, Nat.le_refl _, fun _ h => absurd h (Nat.not_lt_zero _)⟩, trivial⟩
    | omega
    | trace_state

theorem growA_does (n : Nat) (h : n ≤ 1000000000000) : Does Try.prog 96 [.nils, .int .i64 n] [] [1] (Is (.own 1 1 0 0) [(1, some (.arr 1 0 (byteAt [])))]) := by
  rcases Nat.eq_zero_or_pos n with h0 | h0
  · subst h0; exact grow0_does
  · exact grow_does n h0 h

def Sc1 (L : List (List UInt8)) (i : Nat) : St := ⟨[(0, sl 1 bytesA L), (3, .int .i64 (L.take i).flatten.length), (9, sl 1 bytesA L), (10, .int .i64 L.length), (11, .int .i64 i)], [], []⟩
def Sc2 (L : List (List UInt8)) (i : Nat) : St := ⟨[(6, .own 1 500 0 (L.take i).flatten.length), (25, sl 1 bytesA L), (26, .int .i64 L.length), (27, .int .i64 i)], [(500, some (.arr 1 (L.take i).flatten.length (byteAt (L.take i).flatten)))], [500]⟩
theorem concat_does (L : List (List UInt8)) (hL : L.length ≤ 1000000000000) (h : L.flatten.length ≤ 1000000000000) : Does Try.prog 90 [sl 1 bytesA L] [] [1] (Is (.own 1 1 0 L.flatten.length) [(1, some (.arr 1 L.flatten.length (byteAt L.flatten)))]) := by
  have hpos : ∀ a b : Nat, ¬ ((a : Int) + (b : Int) < 0) := fun a b => by omega
  refine Does.intro (fn := Try.f90) Try.func90 rfl rfl fun Γ hΓ => ?_
  refine W.run TOK 36 hΓ 1000 ?_
  conv => whnf
  refine ⟨?_, ?_⟩
  repeat' first
    | assumption
    | exact Bool.noConfusion hb
    | exact absurd hb (by decide)
    | (apply W.atRet (π := []) (r' := []) TOK; refine ⟨rfl, rfl, rfl, rfl, ⟨rfl, rfl⟩, ?_, ?_, ?_⟩)
    | ((first | refine W.branch rfl (fun hb => ?_) (fun hb => ?_) | refine D.branch rfl (fun hb => ?_) (fun hb => ?_)) <;> ((try simp only [qhb, addI, reduceCtorEq, Int.reduceToNat] at hb); (try replace hb := of_decide_eq_true hb); (try replace hb := of_decide_eq_false hb)))
    | (refine W.go TOK 36 hΓ 1000 rfl ?_; (conv => whnf); refine ⟨?_, ?_⟩)
    | (refine D.go TOK 36 hΓ 1000 rfl ?_; (conv => whnf); refine ⟨?_, ?_⟩)
    | (refine W.drawn rfl rfl ?_; refine D.run TOK 36 hΓ 1000 ?_; (conv => whnf); refine ⟨?_, ?_⟩)
  all_goals try exact qco0
  refine W.loop (fun i => i ≤ L.length) (fun i => L.length - i) (Sc1 L) 0 (Nat.zero_le _) (Weak.via [] rfl rfl rfl ⟨⟨rfl, rfl, fun _ _ => A.sim.refl _⟩, ⟨rfl, rfl⟩, ⟨rfl, rfl, fun _ _ => A.sim.refl _⟩, ⟨rfl, rfl⟩, ⟨rfl, rfl⟩, trivial⟩ trivial) ?_
  intro i hi ih
  have hlen : i < L.length → (L.take i).flatten.length + (L.getD i default).length = (L.take (i + 1)).flatten.length := fun hlt => flat_len L i hlt
  have hlen' : i < L.length → (((L.take i).flatten.length : Nat) : Int) + ((L.getD i default).length : Int) = (((L.take (i + 1)).flatten.length : Nat) : Int) := fun hlt => by rw [← hlen hlt]; rfl
  have hle := flat_le L i
  have hle2 := flat_le L (i + 1)
  have hend : ¬ i < L.length → (((L.take i).flatten.length : Nat) : Int) = ((L.flatten.length : Nat) : Int) := fun hn => by rw [List.take_of_length_le (Nat.not_lt.1 hn)]
  dsimp only [Sc1]
  refine W.run TOK 36 hΓ 1000 ?_
  conv => whnf
  refine ⟨?_, ?_⟩
  repeat' first
    | assumption
    | exact Bool.noConfusion hb
    | exact absurd hb (by decide)
    | exact absurd hb (hpos _ _)
    | (refine W.to (ih (i + 1) ?_ ?_) (Weak.via [] rfl rfl rfl ⟨⟨rfl, rfl, fun _ _ => A.sim.refl _⟩, ⟨rfl, ?_⟩, ⟨rfl, rfl, fun _ _ => A.sim.refl _⟩, ⟨rfl, rfl⟩, ⟨rfl, rfl⟩, trivial⟩ trivial))
    | (apply W.atRet (π := []) (r' := []) TOK; refine ⟨rfl, rfl, rfl, rfl, ⟨rfl, rfl⟩, ?_, ?_, ?_⟩)
    | ((first | refine W.branch rfl (fun hb => ?_) (fun hb => ?_) | refine D.branch rfl (fun hb => ?_) (fun hb => ?_)) <;> ((try simp only [qhb, addI, reduceCtorEq, Int.reduceToNat] at hb); (try replace hb := of_decide_eq_true hb); (try replace hb := of_decide_eq_false hb)))
    | (refine D.callF (growA_does L.flatten.length h) rfl rfl rfl rfl [] [] [500] rfl rfl hΓ rfl ⟨trivial, ⟨rfl, ?_⟩, trivial⟩ trivial (.inl rfl) rfl ?_; (conv => whnf))
    | (refine W.callF (growA_does L.flatten.length h) rfl rfl rfl rfl [] [] [500] rfl rfl hΓ rfl ⟨trivial, ⟨rfl, ?_⟩, trivial⟩ trivial (.inl rfl) ?_)
    | (refine W.go TOK 36 hΓ 1000 rfl ?_; (conv => whnf); refine ⟨?_, ?_⟩)
    | (refine D.go TOK 36 hΓ 1000 rfl ?_; (conv => whnf); refine ⟨?_, ?_⟩)
    | (refine W.drawn rfl rfl ?_; refine D.run TOK 36 hΓ 1000 ?_; (conv => whnf); refine ⟨?_, ?_⟩)
  all_goals try exact qco0
  all_goals try (exact hlen' (by omega))
  refine W.loop (fun i => i ≤ L.length) (fun i => L.length - i) (Sc2 L) 0 (Nat.zero_le _) (Weak.via [(500, 500)] rfl rfl rfl ⟨⟨rfl, rfl, rfl, rfl⟩, ⟨rfl, rfl, fun _ _ => A.sim.refl _⟩, ⟨rfl, rfl⟩, ⟨rfl, rfl⟩, trivial⟩ ⟨⟨rfl, Nat.zero_le _, fun _ h => absurd h (Nat.not_lt_zero _)⟩, trivial⟩) ?_
  clear ih hlen hlen' hle hle2 hend
  intro i hi ih
  have hlen : i < L.length → (L.take i).flatten.length + (L.getD i default).length = (L.take (i + 1)).flatten.length := fun hlt => flat_len L i hlt
  have hle := flat_le L i
  have hle2 := flat_le L (i + 1)
  dsimp only [Sc2]
  refine W.run TOK 36 hΓ 1000 ?_
  conv => whnf
  refine ⟨?_, ?_⟩
  repeat' first
    | assumption
    | exact Bool.noConfusion hb
    | exact absurd hb (by decide)
    | (refine W.to (ih (i + 1) ?_ ?_) (Weak.via [(500, 33)] rfl rfl rfl ⟨⟨rfl, rfl, rfl, ?_⟩, ⟨rfl, rfl, fun _ _ => A.sim.refl _⟩, ⟨rfl, rfl⟩, ⟨rfl, rfl⟩, trivial⟩ ⟨⟨rfl, ?_, ?_⟩, trivial⟩))
    | (apply W.atRet (π := [(1, 500)]) (r' := [(1, some (.arr 1 L.flatten.length (byteAt L.flatten)))]) TOK; refine ⟨rfl, rfl, rfl, rfl, ⟨rfl, rfl⟩, ?_, ?_, ?_⟩)
    | ((first | refine W.branch rfl (fun hb => ?_) (fun hb => ?_) | refine D.branch rfl (fun hb => ?_) (fun hb => ?_)) <;> ((try simp only [qhb, addI, reduceCtorEq, Int.reduceToNat] at hb); (try replace hb := of_decide_eq_true hb); (try replace hb := of_decide_eq_false hb)))
    | (refine W.go TOK 36 hΓ 1000 rfl ?_; (conv => whnf); refine ⟨?_, ?_⟩)
    | (refine D.go TOK 36 hΓ 1000 rfl ?_; (conv => whnf); refine ⟨?_, ?_⟩)
    | (refine W.drawn rfl rfl ?_; refine D.run TOK 36 hΓ 1000 ?_; (conv => whnf); refine ⟨?_, ?_⟩)
  all_goals try exact qco0
  all_goals first
    | exact flat_cat L i (Int.ofNat_lt.1 hb)
    | (have e : i = L.length := by omega
       subst e
       rw [List.take_length]
       first | exact ⟨rfl, rfl, rfl, rfl⟩ | exact ⟨⟨rfl, Nat.le_refl _, fun _ _ => .refl _⟩, trivial⟩)

theorem join_does (L : List (List UInt8)) (hL : L.length ≤ 1000000000000) (h : L.flatten.length ≤ 1000000000000) : Does Try.prog 82 [sl 1 bytesA L] [] [1] (Is (.own 1 1 0 L.flatten.length) [(1, some (.arr 1 L.flatten.length (byteAt L.flatten)))]) := by
  refine Does.intro (fn := Try.f82) Try.func82 rfl rfl fun Γ hΓ => ?_
  refine W.run TOK 5 hΓ 1000 ?_
  conv => whnf
  refine ⟨?_, ?_⟩
  repeat' first
    | assumption
    | exact Bool.noConfusion hb
    | exact absurd hb (by decide)
    | (apply W.atRet (π := [(1, 500)]) (r' := [(1, some (.arr 1 L.flatten.length (byteAt L.flatten)))]) TOK; refine ⟨rfl, rfl, rfl, rfl, ⟨rfl, rfl⟩, ?_, ?_, ?_⟩)
    | ((first | refine W.branch rfl (fun hb => ?_) (fun hb => ?_) | refine D.branch rfl (fun hb => ?_) (fun hb => ?_)) <;> ((try simp only [qhb, addI, reduceCtorEq, Int.reduceToNat] at hb); (try replace hb := of_decide_eq_true hb); (try replace hb := of_decide_eq_false hb)))
    | (refine D.callF (concat_does L hL h) rfl rfl rfl rfl [] [] [500] rfl rfl hΓ rfl ⟨⟨rfl, rfl, fun _ _ => A.sim.refl _⟩, trivial⟩ trivial (.inl rfl) rfl ?_; (conv => whnf))
    | (refine W.callF (concat_does L hL h) rfl rfl rfl rfl [] [] [500] rfl rfl hΓ rfl ⟨⟨rfl, rfl, fun _ _ => A.sim.refl _⟩, trivial⟩ trivial (.inl rfl) ?_)
    | (refine W.go TOK 5 hΓ 1000 rfl ?_; (conv => whnf); refine ⟨?_, ?_⟩)
    | (refine D.go TOK 5 hΓ 1000 rfl ?_; (conv => whnf); refine ⟨?_, ?_⟩)
    | (refine W.drawn rfl rfl ?_; refine D.run TOK 5 hΓ 1000 ?_; (conv => whnf); refine ⟨?_, ?_⟩)
  all_goals try exact qco0
  all_goals first
    | exact ⟨rfl, rfl, rfl, rfl⟩
    | exact ⟨⟨rfl, Nat.le_refl _, fun _ _ => .refl _⟩, trivial⟩

end Go.Proofs.Ytcolghonbncpnaa
