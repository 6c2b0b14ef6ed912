/- Walks: the statements of layer 9. -/
import Derived.Test.YtfgpiobnmddmhaaGr9K
import Derived.Test.YtfgpiobnmddmhaaGrSpec4
set_option linter.unusedSimpArgs false
set_option linter.unusedVariables false
namespace Go.Proofs.Ytfgpiobnmddmhaa
open VX
set_option maxRecDepth 100000
set_option maxHeartbeats 4000000
def Ts : Tab := { l := tabL, frz := [49, 107, 123, 131] }
theorem TsOK : TabOK Try.prog Ts.l := tabOK
def Tu : Tab := { l := tabL, frz := [49, 107, 123, 131], stop := [19] }
theorem TuOK : TabOK Try.prog Tu.l := tabOK
theorem nil_sim {α : Type} [Inhabited α] {f : α → A} {sz : Nat} : A.nils.sim (sl sz f []) := by
  refine ⟨rfl, rfl, fun _ _ => ⟨trivial, trivial⟩, fun _ _ I vs hr => ?_⟩
  have hr : RL I nr [A.nils] vs := hr
  show RL I nr [sl sz f []] vs
  obtain ⟨u, rfl, h1⟩ := hr.one_inv
  refine .cons ?_ .nil
  have e := h1.nils_inv
  subst e
  exact .ro0
theorem sim4a {z a b c d : A} {h : Nat → A} (h0 : a.sim (h 0)) (h1 : b.sim (h 1)) (h2 : c.sim (h 2)) (h3 : d.sim (h 3)) : ∀ i, i < 4 → ((listF z (fillL (repl z 4) [(0, a), (1, b), (2, c), (3, d)])) i).sim (h i) := fun i hi => by
  match i, hi with
  | 0, _ => exact h0
  | 1, _ => exact h1
  | 2, _ => exact h2
  | 3, _ => exact h3

theorem tells_does (l : List UInt8) (raw : List Hs) (m n : Int) (k : UInt8) (h : Hs) (what : UInt8) (hl0 : l.length ≤ 9223372036854775807) (hr0 : raw.length ≤ 9223372036854775807) (hr32 : ∀ x ∈ raw, x.length = 32)
    (hm : inr .i64 m) (hn : inr .i64 n) (hh : h.length = 32) : Does Try.prog 3 [bytesA l, sl 32 hashA raw, .int .i64 m, .int .i64 n, VX.byte k, hashA h, VX.byte what] [] [] Yes := by
  refine Does.intro (fn := Try.f3) Try.func3 rfl rfl fun Γ hΓ => ?_
  refine W.run TsOK 156 hΓ 1000 ?_
  conv => whnf
  refine ⟨?_, ?_⟩
  repeat' first
    | assumption
    | exact Bool.noConfusion hb
    | exact absurd hb (by decide)
    | (exfalso; omega)
    | (refine W.retY TsOK rfl rfl ⟨?_, ?_⟩)
    | (refine W.branch rfl (fun hb => ?_) (fun hb => ?_) <;> ((try simp only [decide_eq_true_eq, decide_eq_false_iff_not, Bool.not_eq_true', Bool.not_eq_false', Int.not_lt, Int.not_le, cond_true, cond_false, reduceCtorEq, Int.toNat_natCast, Int.reduceToNat, addI] at hb); (try replace hb := of_decide_eq_true hb); (try replace hb := of_decide_eq_false hb)))
    | (refine W.callA (known_does) rfl rfl rfl rfl hΓ rfl ?_; (conv => whnf); refine ⟨rfl, rfl, ?_, ?_, ?_, ?_⟩; (focus ((repeat' apply And.intro) <;> first | exact trivial | (intro i _; rw [Nat.zero_add]; exact A.sim.refl _) | with_reducible exact rfl | exact fun _ _ => A.sim.refl _ | exact A.sim.refl _ | exact rfl | exact Nat.le_refl _ | omega | exact fun i _ => shift_sim _ _ i | exact fun _ _ => trivial | exact fun _ h => absurd h (Nat.not_lt_zero _))); (focus ((repeat' apply And.intro) <;> first | exact trivial | (intro i _; rw [Nat.zero_add]; exact A.sim.refl _) | with_reducible exact rfl | exact fun _ _ => A.sim.refl _ | exact A.sim.refl _ | exact rfl | exact Nat.le_refl _ | omega | exact fun i _ => shift_sim _ _ i | exact fun _ _ => trivial | exact fun _ h => absurd h (Nat.not_lt_zero _))); (focus ((repeat' apply And.intro) <;> first | exact trivial | (intro i _; rw [Nat.zero_add]; exact A.sim.refl _) | with_reducible exact rfl | exact fun _ _ => A.sim.refl _ | exact A.sim.refl _ | exact rfl | exact Nat.le_refl _ | omega | exact fun i _ => shift_sim _ _ i | exact fun _ _ => trivial | exact fun _ h => absurd h (Nat.not_lt_zero _))); (conv => whnf))
    | (refine W.go TsOK 156 hΓ 1000 rfl ?_; (conv => whnf); refine ⟨?_, ?_⟩)
  all_goals (repeat' apply And.intro)
  all_goals try (first
    | exact trivial
    | exact rfl
    | exact fun _ _ => A.sim.refl _
    | exact A.sim.refl _
    | exact Nat.le_refl _
    | omega
    | exact fun _ _ => trivial
    | exact fun i _ => shift_sim _ _ i
    | exact fun _ h => absurd h (Nat.not_lt_zero _)
    | exact fun i _ => isInt_byteAt _ i
    | (simp only [allP, List.nil_append, List.append_nil, List.cons_append, List.append_eq, and_true, true_and, inr_i64, inr_u8, inr_u64, min_i64, max_i64, min_u64, max_u64, min_u8, max_u8, A.purePL, A.pureP, A.sureP, A.surePL, Int.toNat_natCast, Int.reduceToNat, addI, cHi, cLo, hiN, loN, subO, addO, hasIdx, cond_true, cond_false]; (repeat' apply And.intro) <;> first | exact trivial | rfl | omega | decide)
    )
  have hl30 : l.length ≤ 40 := by omega
  have hr20 : raw.length ≤ 12 := by omega
  have c1 := leaves_does l (by omega)
  have hL := leavesS_len l l.length
  have h32 := leavesS_32 l l.length
  generalize leavesS l l.length = L at *
  rw [← hL] at c1 hl30 ⊢
  have rl := rootS_len L h32
  have r1 := rroot_does _ L rfl (by omega) h32
  have hn9 : inr .i64 (L.length : Int) := inr_i64.2 (by omega)
  have hkw : IntKind.i64.wrap (k.toNat : Int) = k.toNat := byte_wrap k
  have k8 := k.toNat_lt
  have w8 := what.toNat_lt
  repeat' first
    | assumption
    | exact Bool.noConfusion hb
    | exact absurd hb (by decide)
    | (exfalso; omega)
    | (refine W.retY TsOK rfl rfl ⟨?_, ?_⟩)
    | (refine W.branch rfl (fun hb => ?_) (fun hb => ?_) <;> ((try simp only [decide_eq_true_eq, decide_eq_false_iff_not, Bool.not_eq_true', Bool.not_eq_false', Int.not_lt, Int.not_le, cond_true, cond_false, reduceCtorEq, Int.toNat_natCast, Int.reduceToNat, addI] at hb); (try replace hb := of_decide_eq_true hb); (try replace hb := of_decide_eq_false hb)))
    | (refine W.callAZ (c1) rfl rfl rfl rfl hΓ rfl ?_; (conv => whnf); refine ⟨rfl, rfl, ?_, ?_, ?_, ?_, ?_⟩; (focus ((repeat' apply And.intro) <;> first | exact trivial | (intro i _; rw [Nat.zero_add]; exact A.sim.refl _) | with_reducible exact rfl | exact fun _ _ => A.sim.refl _ | exact A.sim.refl _ | exact rfl | exact Nat.le_refl _ | omega | exact fun i _ => shift_sim _ _ i | exact fun _ _ => trivial | exact fun _ h => absurd h (Nat.not_lt_zero _))); (focus ((repeat' apply And.intro) <;> first | exact trivial | (intro i _; rw [Nat.zero_add]; exact A.sim.refl _) | with_reducible exact rfl | exact fun _ _ => A.sim.refl _ | exact A.sim.refl _ | exact rfl | exact Nat.le_refl _ | omega | exact fun i _ => shift_sim _ _ i | exact fun _ _ => trivial | exact fun _ h => absurd h (Nat.not_lt_zero _))); (focus ((repeat' apply And.intro) <;> first | exact trivial | (intro i _; rw [Nat.zero_add]; exact A.sim.refl _) | with_reducible exact rfl | exact fun _ _ => A.sim.refl _ | exact A.sim.refl _ | exact rfl | exact Nat.le_refl _ | omega | exact fun i _ => shift_sim _ _ i | exact fun _ _ => trivial | exact fun _ h => absurd h (Nat.not_lt_zero _))); (focus ((repeat' apply And.intro) <;> first | exact trivial | (intro i _; rw [Nat.zero_add]; exact A.sim.refl _) | with_reducible exact rfl | exact fun _ _ => A.sim.refl _ | exact A.sim.refl _ | exact rfl | exact Nat.le_refl _ | omega | exact fun i _ => shift_sim _ _ i | exact fun _ _ => trivial | exact fun _ h => absurd h (Nat.not_lt_zero _))); (conv => whnf))
    | (refine W.go TsOK 156 hΓ 1000 rfl ?_; (conv => whnf); refine ⟨?_, ?_⟩)
  all_goals (repeat' apply And.intro)
  all_goals try (first
    | exact trivial
    | exact rfl
    | exact fun _ _ => A.sim.refl _
    | exact A.sim.refl _
    | exact Nat.le_refl _
    | omega
    | exact fun _ _ => trivial
    | exact fun i _ => shift_sim _ _ i
    | exact fun _ h => absurd h (Nat.not_lt_zero _)
    | exact fun i _ => isInt_byteAt _ i
    | exact fun i _ => ⟨⟨_, rfl⟩, ⟨_, rfl⟩⟩
    | (rw [hkw]; omega)
    | (simp only [allP, List.nil_append, List.append_nil, List.cons_append, List.append_eq, and_true, true_and, inr_i64, inr_u8, inr_u64, min_i64, max_i64, min_u64, max_u64, min_u8, max_u8, A.purePL, A.pureP, A.sureP, A.surePL, Int.toNat_natCast, Int.reduceToNat, addI, cHi, cLo, hiN, loN, subO, addO, hasIdx, cond_true, cond_false]; (repeat' apply And.intro) <;> first | exact trivial | rfl | omega | decide)
    )
  obtain ⟨kk, hkk⟩ : ∃ kk : Nat, kk = k.toNat % (L.length + 2) := ⟨_, rfl⟩
  have hkk2 : IntKind.i64.wrap (k.toNat : Int) % ((L.length : Int) + 2) = (kk : Int) := by rw [hkw, hkk]; push_cast; rfl
  have hMS : ∀ a ∈ [m, (kk : Int)], inr .i64 a := fun a ha => by
    simp only [List.mem_cons, List.not_mem_nil, or_false] at ha
    have := Nat.mod_lt k.toNat (show 0 < L.length + 2 by omega)
    rcases ha with rfl | rfl
    · exact hm
    · exact inr_i64.2 (by omega)
  refine W.loopA (Nat) (fun i => i ≤ 2) (fun i => 2 - i) (fun i => [(49, sl 1 (A.int .i64) [m, (kk : Int)]), (51, .int .i64 i)]) (fun i => []) [30, 31, 32, 33, 34, 35, 36, 37, 38, 39, 40, 41, 42, 43, 44, 45, 46, 47, 48] (0) ((by decide)) ?_
  (conv => whnf); refine ⟨?_, ?_⟩; focus ((conv => whnf); refine ⟨rfl, rfl, rfl, rfl, rfl, rfl, ?_, ?_⟩; (focus ((repeat' apply And.intro) <;> first | exact trivial | (intro i _; rw [Nat.zero_add]; exact A.sim.refl _) | with_reducible exact rfl | exact fun _ _ => A.sim.refl _ | exact A.sim.refl _ | exact rfl | exact Nat.le_refl _ | omega | exact fun i _ => shift_sim _ _ i | exact fun _ _ => trivial | exact fun _ h => absurd h (Nat.not_lt_zero _) | exact sim2a (A.sim.refl _) (A.sim.of (congrArg (A.int .i64) hkk2)))); (focus ((repeat' apply And.intro) <;> first | exact trivial | (intro i _; rw [Nat.zero_add]; exact A.sim.refl _) | with_reducible exact rfl | exact fun _ _ => A.sim.refl _ | exact A.sim.refl _ | exact rfl | exact Nat.le_refl _ | omega | exact fun i _ => shift_sim _ _ i | exact fun _ _ => trivial | exact fun _ h => absurd h (Nat.not_lt_zero _) | exact sim2a (A.sim.refl _) (A.sim.of (congrArg (A.int .i64) hkk2)))))
  rintro i hi ih
  have hA2l : ([m, (kk : Int)] : List Int).length = 2 := rfl
  generalize ([m, (kk : Int)] : List Int) = MS at hMS hA2l ih ⊢
  by_cases hlt : i < 2
  rotate_left
  · skip
    refine W.run TsOK 156 hΓ 1000 ?_
    conv => whnf
    refine ⟨?_, ?_⟩
    repeat' first
      | assumption
      | exact Bool.noConfusion hb
      | exact absurd hb (by decide)
      | (exfalso; omega)
      | (refine W.retY TsOK rfl rfl ⟨?_, ?_⟩)
      | (refine W.branch rfl (fun hb => ?_) (fun hb => ?_) <;> ((try simp only [decide_eq_true_eq, decide_eq_false_iff_not, Bool.not_eq_true', Bool.not_eq_false', Int.not_lt, Int.not_le, cond_true, cond_false, reduceCtorEq, Int.toNat_natCast, Int.reduceToNat, addI] at hb); (try replace hb := of_decide_eq_true hb); (try replace hb := of_decide_eq_false hb)))
      | (refine W.go TsOK 156 hΓ 1000 rfl ?_; (conv => whnf); refine ⟨?_, ?_⟩)
    all_goals (repeat' apply And.intro)
    all_goals try (first
      | exact trivial
      | exact rfl
      | exact fun _ _ => A.sim.refl _
      | exact A.sim.refl _
      | exact Nat.le_refl _
      | omega
      | exact fun _ _ => trivial
      | exact fun i _ => shift_sim _ _ i
      | exact fun _ h => absurd h (Nat.not_lt_zero _)
      | exact fun i _ => isInt_byteAt _ i
      | (simp only [allP, List.nil_append, List.append_nil, List.cons_append, List.append_eq, and_true, true_and, inr_i64, inr_u8, inr_u64, min_i64, max_i64, min_u64, max_u64, min_u8, max_u8, A.purePL, A.pureP, A.sureP, A.surePL, Int.toNat_natCast, Int.reduceToNat, addI, cHi, cLo, hiN, loN, subO, addO, hasIdx, cond_true, cond_false]; (repeat' apply And.intro) <;> first | exact trivial | rfl | omega | decide)
      )
  have hA1 := sl_get hMS (by omega : i < MS.length)
  have p1 := prove_does L (MS.getD i default) (by omega) h32
  have p2 := rprove_does L (MS.getD i default) (by omega) h32
  have pl := proveA_len L (MS.getD i default) h32
  have p32 := proveA_32 L (MS.getD i default) h32
  have hs := hashes_does (proveA L (MS.getD i default)).1 (proveA L (MS.getD i default)).1 (by omega) (by omega) p32 p32
  rw [decide_eq_true rfl] at hs
  generalize hP : (proveA L (MS.getD i default)).1 = p at *
  obtain ⟨e0, he0⟩ : ∃ e0 : Nat, e0 = what.toNat % p.length := ⟨_, rfl⟩
  have hww : IntKind.i64.wrap (what.toNat : Int) = what.toNat := byte_wrap what
  have hE : IntKind.i64.wrap (what.toNat : Int) % (p.length : Int) = (e0 : Int) := by rw [hww, he0]; push_cast; rfl
  have hE1 : 0 < p.length → e0 < p.length := fun h => by rw [he0]; exact Nat.mod_lt _ h
  obtain ⟨q, hq, hq9⟩ : ∃ q : Nat, (if (L.length : Int) < (if MS.getD i default < 0 then 0 else MS.getD i default) then (L.length : Int) else (if MS.getD i default < 0 then 0 else MS.getD i default)) = (q : Int) ∧ q ≤ L.length := by
    refine ⟨(if (L.length : Int) < (if MS.getD i default < 0 then 0 else MS.getD i default) then (L.length : Int) else (if MS.getD i default < 0 then 0 else MS.getD i default)).toNat, ?_, ?_⟩ <;> split <;> (try split) <;> omega
  have hqn : (if (L.length : Int) < (if MS.getD i default < 0 then 0 else MS.getD i default) then (L.length : Int) else (if MS.getD i default < 0 then 0 else MS.getD i default)).toNat = q := by rw [hq]; rfl
  have ht : (L.take q).length = q := by rw [List.length_take]; omega
  have ro := rroot_does q (L.take q) ht (by omega) (all_take h32 _)
  have ro32 := rootS_len (L.take q) (all_take h32 _)
  generalize rootS (L.take q) = old at *
  refine W.run TsOK 156 hΓ 1000 ?_
  conv => whnf
  refine ⟨?_, ?_⟩
  repeat' first
    | assumption
    | exact Bool.noConfusion hb
    | exact absurd hb (by decide)
    | (exfalso; omega)
    | (exfalso; simp at hb; done)
    | (refine W.midA (c := Code.cond (Operand.tmp 88) _ _) (List Hs) (fun B => (∀ x ∈ B, x.length = 32) ∧ B.length ≤ 1000) (fun B => [(23, .own 32 503 0 B.length)]) (fun B => [(503, some (slO B))]) [30, 31, 32, 33, 34, 35, 36, 37, 38, 39, 40, 41, 42, 43, 44, 45, 46, 47, 48, 52, 53, 54, 55, 56, 57, 58, 59, 60, 61, 62, 63, 64, 65, 66, 67, 68, 69, 70, 71, 72, 73, 74, 75, 76, 77, 78, 79, 80, 81, 82, 83, 84, 85, 86, 87, 88] (p) ?_; (conv => whnf); refine ⟨?_, ?_⟩)
    | (refine W.retY TsOK rfl rfl ⟨?_, ?_⟩)
    | (refine W.branch rfl (fun hb => ?_) (fun hb => ?_) <;> ((try simp only [decide_eq_true_eq, decide_eq_false_iff_not, Bool.not_eq_true', Bool.not_eq_false', Int.not_lt, Int.not_le, cond_true, cond_false, reduceCtorEq, Int.toNat_natCast, Int.reduceToNat, addI] at hb); (try replace hb := of_decide_eq_true hb); (try replace hb := of_decide_eq_false hb)))
    | (refine W.callA (p1) rfl rfl rfl rfl hΓ rfl ?_; (conv => whnf); refine ⟨rfl, rfl, ?_, ?_, ?_, ?_⟩; (focus ((repeat' apply And.intro) <;> first | exact trivial | (intro i _; rw [Nat.zero_add]; exact A.sim.refl _) | with_reducible exact rfl | exact fun _ _ => A.sim.refl _ | exact A.sim.refl _ | exact rfl | exact Nat.le_refl _ | omega | exact fun i _ => shift_sim _ _ i | exact fun _ _ => trivial | exact fun _ h => absurd h (Nat.not_lt_zero _) | exact hqn.trans ht.symm | exact hqn | exact sl_take_le (f := hashA) L q (Nat.le_of_eq hqn))); (focus ((repeat' apply And.intro) <;> first | exact trivial | (intro i _; rw [Nat.zero_add]; exact A.sim.refl _) | with_reducible exact rfl | exact fun _ _ => A.sim.refl _ | exact A.sim.refl _ | exact rfl | exact Nat.le_refl _ | omega | exact fun i _ => shift_sim _ _ i | exact fun _ _ => trivial | exact fun _ h => absurd h (Nat.not_lt_zero _) | exact hqn.trans ht.symm | exact hqn | exact sl_take_le (f := hashA) L q (Nat.le_of_eq hqn))); (focus ((repeat' apply And.intro) <;> first | exact trivial | (intro i _; rw [Nat.zero_add]; exact A.sim.refl _) | with_reducible exact rfl | exact fun _ _ => A.sim.refl _ | exact A.sim.refl _ | exact rfl | exact Nat.le_refl _ | omega | exact fun i _ => shift_sim _ _ i | exact fun _ _ => trivial | exact fun _ h => absurd h (Nat.not_lt_zero _) | exact hqn.trans ht.symm | exact hqn | exact sl_take_le (f := hashA) L q (Nat.le_of_eq hqn))); (conv => whnf))
    | (refine W.callA (p2) rfl rfl rfl rfl hΓ rfl ?_; (conv => whnf); refine ⟨rfl, rfl, ?_, ?_, ?_, ?_⟩; (focus ((repeat' apply And.intro) <;> first | exact trivial | (intro i _; rw [Nat.zero_add]; exact A.sim.refl _) | with_reducible exact rfl | exact fun _ _ => A.sim.refl _ | exact A.sim.refl _ | exact rfl | exact Nat.le_refl _ | omega | exact fun i _ => shift_sim _ _ i | exact fun _ _ => trivial | exact fun _ h => absurd h (Nat.not_lt_zero _) | exact hqn.trans ht.symm | exact hqn | exact sl_take_le (f := hashA) L q (Nat.le_of_eq hqn))); (focus ((repeat' apply And.intro) <;> first | exact trivial | (intro i _; rw [Nat.zero_add]; exact A.sim.refl _) | with_reducible exact rfl | exact fun _ _ => A.sim.refl _ | exact A.sim.refl _ | exact rfl | exact Nat.le_refl _ | omega | exact fun i _ => shift_sim _ _ i | exact fun _ _ => trivial | exact fun _ h => absurd h (Nat.not_lt_zero _) | exact hqn.trans ht.symm | exact hqn | exact sl_take_le (f := hashA) L q (Nat.le_of_eq hqn))); (focus ((repeat' apply And.intro) <;> first | exact trivial | (intro i _; rw [Nat.zero_add]; exact A.sim.refl _) | with_reducible exact rfl | exact fun _ _ => A.sim.refl _ | exact A.sim.refl _ | exact rfl | exact Nat.le_refl _ | omega | exact fun i _ => shift_sim _ _ i | exact fun _ _ => trivial | exact fun _ h => absurd h (Nat.not_lt_zero _) | exact hqn.trans ht.symm | exact hqn | exact sl_take_le (f := hashA) L q (Nat.le_of_eq hqn))); (conv => whnf))
    | (refine W.callA (hs) rfl rfl rfl rfl hΓ rfl ?_; (conv => whnf); refine ⟨rfl, rfl, ?_, ?_, ?_, ?_⟩; (focus ((repeat' apply And.intro) <;> first | exact trivial | (intro i _; rw [Nat.zero_add]; exact A.sim.refl _) | with_reducible exact rfl | exact fun _ _ => A.sim.refl _ | exact A.sim.refl _ | exact rfl | exact Nat.le_refl _ | omega | exact fun i _ => shift_sim _ _ i | exact fun _ _ => trivial | exact fun _ h => absurd h (Nat.not_lt_zero _) | exact hqn.trans ht.symm | exact hqn | exact sl_take_le (f := hashA) L q (Nat.le_of_eq hqn))); (focus ((repeat' apply And.intro) <;> first | exact trivial | (intro i _; rw [Nat.zero_add]; exact A.sim.refl _) | with_reducible exact rfl | exact fun _ _ => A.sim.refl _ | exact A.sim.refl _ | exact rfl | exact Nat.le_refl _ | omega | exact fun i _ => shift_sim _ _ i | exact fun _ _ => trivial | exact fun _ h => absurd h (Nat.not_lt_zero _) | exact hqn.trans ht.symm | exact hqn | exact sl_take_le (f := hashA) L q (Nat.le_of_eq hqn))); (focus ((repeat' apply And.intro) <;> first | exact trivial | (intro i _; rw [Nat.zero_add]; exact A.sim.refl _) | with_reducible exact rfl | exact fun _ _ => A.sim.refl _ | exact A.sim.refl _ | exact rfl | exact Nat.le_refl _ | omega | exact fun i _ => shift_sim _ _ i | exact fun _ _ => trivial | exact fun _ h => absurd h (Nat.not_lt_zero _) | exact hqn.trans ht.symm | exact hqn | exact sl_take_le (f := hashA) L q (Nat.le_of_eq hqn))); (conv => whnf))
    | (refine W.callA (ro) rfl rfl rfl rfl hΓ rfl ?_; (conv => whnf); refine ⟨rfl, rfl, ?_, ?_, ?_, ?_⟩; (focus ((repeat' apply And.intro) <;> first | exact trivial | (intro i _; rw [Nat.zero_add]; exact A.sim.refl _) | with_reducible exact rfl | exact fun _ _ => A.sim.refl _ | exact A.sim.refl _ | exact rfl | exact Nat.le_refl _ | omega | exact fun i _ => shift_sim _ _ i | exact fun _ _ => trivial | exact fun _ h => absurd h (Nat.not_lt_zero _) | exact hqn.trans ht.symm | exact hqn | exact sl_take_le (f := hashA) L q (Nat.le_of_eq hqn))); (focus ((repeat' apply And.intro) <;> first | exact trivial | (intro i _; rw [Nat.zero_add]; exact A.sim.refl _) | with_reducible exact rfl | exact fun _ _ => A.sim.refl _ | exact A.sim.refl _ | exact rfl | exact Nat.le_refl _ | omega | exact fun i _ => shift_sim _ _ i | exact fun _ _ => trivial | exact fun _ h => absurd h (Nat.not_lt_zero _) | exact hqn.trans ht.symm | exact hqn | exact sl_take_le (f := hashA) L q (Nat.le_of_eq hqn))); (focus ((repeat' apply And.intro) <;> first | exact trivial | (intro i _; rw [Nat.zero_add]; exact A.sim.refl _) | with_reducible exact rfl | exact fun _ _ => A.sim.refl _ | exact A.sim.refl _ | exact rfl | exact Nat.le_refl _ | omega | exact fun i _ => shift_sim _ _ i | exact fun _ _ => trivial | exact fun _ h => absurd h (Nat.not_lt_zero _) | exact hqn.trans ht.symm | exact hqn | exact sl_take_le (f := hashA) L q (Nat.le_of_eq hqn))); (conv => whnf))
    | (refine W.go TsOK 156 hΓ 1000 rfl ?_; (conv => whnf); refine ⟨?_, ?_⟩)
  all_goals (repeat' apply And.intro)
  all_goals try (first
    | exact trivial
    | exact rfl
    | exact fun _ _ => A.sim.refl _
    | exact A.sim.refl _
    | exact Nat.le_refl _
    | omega
    | exact fun _ _ => trivial
    | exact fun i _ => shift_sim _ _ i
    | exact fun _ h => absurd h (Nat.not_lt_zero _)
    | exact fun i _ => isInt_byteAt _ i
    | exact fun i _ => ⟨⟨_, rfl⟩, ⟨_, rfl⟩⟩
    | (rw [hq]; omega)
    | (simp only [allP, List.nil_append, List.append_nil, List.cons_append, List.append_eq, and_true, true_and, inr_i64, inr_u8, inr_u64, min_i64, max_i64, min_u64, max_u64, min_u8, max_u8, A.purePL, A.pureP, A.sureP, A.surePL, Int.toNat_natCast, Int.reduceToNat, addI, cHi, cLo, hiN, loN, subO, addO, hasIdx, cond_true, cond_false]; (repeat' apply And.intro) <;> first | exact trivial | rfl | omega | decide)
    )
  rotate_left
  · intro hm
    refine W.run TuOK 156 hΓ 1000 ?_
    conv => whnf
    refine ⟨?_, ?_⟩
    repeat' first
      | assumption
      | exact Bool.noConfusion hb
      | exact absurd hb (by decide)
      | (exfalso; omega)
      | (refine W.toA (hm (p ++ [h]) ?_) ?_; rotate_left 1; (conv => whnf); refine ⟨rfl, rfl, rfl, rfl, rfl, rfl, ?_, ?_⟩; (focus ((repeat' apply And.intro) <;> first | exact trivial | (intro i _; rw [Nat.zero_add]; exact A.sim.refl _) | with_reducible exact rfl | exact fun _ _ => A.sim.refl _ | exact A.sim.refl _ | exact rfl | exact Nat.le_refl _ | omega | exact fun i _ => shift_sim _ _ i | exact fun _ _ => trivial | exact fun _ h => absurd h (Nat.not_lt_zero _) | exact sl_snoc0 (f := hashA) _ _ (Nat.le_refl _) (A.sim.of rfl) | exact sl_take (f := hashA) _ _ | exact sl_drop (f := hashA) _ _ _ | exact len_snoc _ _ | exact Nat.le_of_eq (len_snoc _ _).symm | exact sl_snoc (f := hashA) _ _ (A.sim.refl _) | exact len_set _ _ _ | exact Nat.le_of_eq (len_set _ _ _).symm | exact sl_set (f := hashA) _ _ _ | (rw [hE]; exact sl_set (f := hashA) p e0 h) | (simp only [hE]; exact sl_set (f := hashA) p e0 h))); (focus ((repeat' apply And.intro) <;> first | exact trivial | (intro i _; rw [Nat.zero_add]; exact A.sim.refl _) | with_reducible exact rfl | exact fun _ _ => A.sim.refl _ | exact A.sim.refl _ | exact rfl | exact Nat.le_refl _ | omega | exact fun i _ => shift_sim _ _ i | exact fun _ _ => trivial | exact fun _ h => absurd h (Nat.not_lt_zero _) | exact sl_snoc0 (f := hashA) _ _ (Nat.le_refl _) (A.sim.of rfl) | exact sl_take (f := hashA) _ _ | exact sl_drop (f := hashA) _ _ _ | exact len_snoc _ _ | exact Nat.le_of_eq (len_snoc _ _).symm | exact sl_snoc (f := hashA) _ _ (A.sim.refl _) | exact len_set _ _ _ | exact Nat.le_of_eq (len_set _ _ _).symm | exact sl_set (f := hashA) _ _ _ | (rw [hE]; exact sl_set (f := hashA) p e0 h) | (simp only [hE]; exact sl_set (f := hashA) p e0 h))))
      | (refine W.toA (hm (p.set e0 h) ?_) ?_; rotate_left 1; (conv => whnf); refine ⟨rfl, rfl, rfl, rfl, rfl, rfl, ?_, ?_⟩; (focus ((repeat' apply And.intro) <;> first | exact trivial | (intro i _; rw [Nat.zero_add]; exact A.sim.refl _) | with_reducible exact rfl | exact fun _ _ => A.sim.refl _ | exact A.sim.refl _ | exact rfl | exact Nat.le_refl _ | omega | exact fun i _ => shift_sim _ _ i | exact fun _ _ => trivial | exact fun _ h => absurd h (Nat.not_lt_zero _) | exact sl_snoc0 (f := hashA) _ _ (Nat.le_refl _) (A.sim.of rfl) | exact sl_take (f := hashA) _ _ | exact sl_drop (f := hashA) _ _ _ | exact len_snoc _ _ | exact Nat.le_of_eq (len_snoc _ _).symm | exact sl_snoc (f := hashA) _ _ (A.sim.refl _) | exact len_set _ _ _ | exact Nat.le_of_eq (len_set _ _ _).symm | exact sl_set (f := hashA) _ _ _ | (rw [hE]; exact sl_set (f := hashA) p e0 h) | (simp only [hE]; exact sl_set (f := hashA) p e0 h))); (focus ((repeat' apply And.intro) <;> first | exact trivial | (intro i _; rw [Nat.zero_add]; exact A.sim.refl _) | with_reducible exact rfl | exact fun _ _ => A.sim.refl _ | exact A.sim.refl _ | exact rfl | exact Nat.le_refl _ | omega | exact fun i _ => shift_sim _ _ i | exact fun _ _ => trivial | exact fun _ h => absurd h (Nat.not_lt_zero _) | exact sl_snoc0 (f := hashA) _ _ (Nat.le_refl _) (A.sim.of rfl) | exact sl_take (f := hashA) _ _ | exact sl_drop (f := hashA) _ _ _ | exact len_snoc _ _ | exact Nat.le_of_eq (len_snoc _ _).symm | exact sl_snoc (f := hashA) _ _ (A.sim.refl _) | exact len_set _ _ _ | exact Nat.le_of_eq (len_set _ _ _).symm | exact sl_set (f := hashA) _ _ _ | (rw [hE]; exact sl_set (f := hashA) p e0 h) | (simp only [hE]; exact sl_set (f := hashA) p e0 h))))
      | (refine W.toA (hm p ?_) ?_; rotate_left 1; (conv => whnf); refine ⟨rfl, rfl, rfl, rfl, rfl, rfl, ?_, ?_⟩; (focus ((repeat' apply And.intro) <;> first | exact trivial | (intro i _; rw [Nat.zero_add]; exact A.sim.refl _) | with_reducible exact rfl | exact fun _ _ => A.sim.refl _ | exact A.sim.refl _ | exact rfl | exact Nat.le_refl _ | omega | exact fun i _ => shift_sim _ _ i | exact fun _ _ => trivial | exact fun _ h => absurd h (Nat.not_lt_zero _) | exact sl_snoc0 (f := hashA) _ _ (Nat.le_refl _) (A.sim.of rfl) | exact sl_take (f := hashA) _ _ | exact sl_drop (f := hashA) _ _ _ | exact len_snoc _ _ | exact Nat.le_of_eq (len_snoc _ _).symm | exact sl_snoc (f := hashA) _ _ (A.sim.refl _) | exact len_set _ _ _ | exact Nat.le_of_eq (len_set _ _ _).symm | exact sl_set (f := hashA) _ _ _ | (rw [hE]; exact sl_set (f := hashA) p e0 h) | (simp only [hE]; exact sl_set (f := hashA) p e0 h))); (focus ((repeat' apply And.intro) <;> first | exact trivial | (intro i _; rw [Nat.zero_add]; exact A.sim.refl _) | with_reducible exact rfl | exact fun _ _ => A.sim.refl _ | exact A.sim.refl _ | exact rfl | exact Nat.le_refl _ | omega | exact fun i _ => shift_sim _ _ i | exact fun _ _ => trivial | exact fun _ h => absurd h (Nat.not_lt_zero _) | exact sl_snoc0 (f := hashA) _ _ (Nat.le_refl _) (A.sim.of rfl) | exact sl_take (f := hashA) _ _ | exact sl_drop (f := hashA) _ _ _ | exact len_snoc _ _ | exact Nat.le_of_eq (len_snoc _ _).symm | exact sl_snoc (f := hashA) _ _ (A.sim.refl _) | exact len_set _ _ _ | exact Nat.le_of_eq (len_set _ _ _).symm | exact sl_set (f := hashA) _ _ _ | (rw [hE]; exact sl_set (f := hashA) p e0 h) | (simp only [hE]; exact sl_set (f := hashA) p e0 h))))
      | (refine W.branch rfl (fun hb => ?_) (fun hb => ?_) <;> ((try simp only [decide_eq_true_eq, decide_eq_false_iff_not, Bool.not_eq_true', Bool.not_eq_false', Int.not_lt, Int.not_le, cond_true, cond_false, reduceCtorEq, Int.toNat_natCast, Int.reduceToNat, addI] at hb); (try replace hb := of_decide_eq_true hb); (try replace hb := of_decide_eq_false hb)))
      | (refine D.branch rfl (fun hb => ?_) (fun hb => ?_) <;> ((try simp only [decide_eq_true_eq, decide_eq_false_iff_not, Bool.not_eq_true', Bool.not_eq_false', Int.not_lt, Int.not_le, cond_true, cond_false, reduceCtorEq, Int.toNat_natCast, Int.reduceToNat, addI] at hb); (try replace hb := of_decide_eq_true hb); (try replace hb := of_decide_eq_false hb)))
      | (refine W.go TuOK 156 hΓ 1000 rfl ?_; (conv => whnf); refine ⟨?_, ?_⟩)
      | (refine D.go TuOK 156 hΓ 1000 rfl ?_; (conv => whnf); refine ⟨?_, ?_⟩)
      | (refine W.drawn rfl rfl ?_; refine D.run TuOK 156 hΓ 1000 ?_; (conv => whnf); refine ⟨?_, ?_⟩)
    all_goals (repeat' apply And.intro)
    all_goals try (first
      | exact trivial
      | exact rfl
      | exact fun _ _ => A.sim.refl _
      | exact A.sim.refl _
      | exact Nat.le_refl _
      | omega
      | exact fun _ _ => trivial
      | exact fun i _ => shift_sim _ _ i
      | exact fun _ h => absurd h (Nat.not_lt_zero _)
      | exact fun i _ => isInt_byteAt _ i
      | exact fun i _ => ⟨⟨_, rfl⟩, ⟨_, rfl⟩⟩
      | exact p32
      | exact all_set p32 _ hh
      | exact all_snoc p32 hh
      | (rw [hE]; omega)
      | (rw [List.length_append]; show _ + 1 ≤ _; omega)
      | (rw [List.length_set]; omega)
      | (rw [hE]; exact Int.ofNat_lt.2 (hE1 (by omega)))
      | (simp only [allP, List.nil_append, List.append_nil, List.cons_append, List.append_eq, and_true, true_and, inr_i64, inr_u8, inr_u64, min_i64, max_i64, min_u64, max_u64, min_u8, max_u8, A.purePL, A.pureP, A.sureP, A.surePL, Int.toNat_natCast, Int.reduceToNat, addI, cHi, cLo, hiN, loN, subO, addO, hasIdx, cond_true, cond_false]; (repeat' apply And.intro) <;> first | exact trivial | rfl | omega | decide)
      )
  rintro B ⟨hB32, hB9⟩
  refine W.cutA [0, 1, 2, 3, 4, 5, 6, 7, 8, 9, 10, 11, 12, 13, 14, 15, 16, 17, 18, 19, 20, 21, 22, 23, 24, 25, 26, 27, 28, 29, 49, 50, 51] [503, 601] ?_
  (conv => whnf); refine ⟨?_, ?_⟩; focus ((conv => whnf); refine ⟨rfl, rfl, rfl, rfl, rfl, rfl, ?_, ?_⟩; (focus ((repeat' apply And.intro) <;> first | exact trivial | (intro i _; rw [Nat.zero_add]; exact A.sim.refl _) | with_reducible exact rfl | exact fun _ _ => A.sim.refl _ | exact A.sim.refl _ | exact rfl | exact Nat.le_refl _ | omega | exact fun i _ => shift_sim _ _ i | exact fun _ _ => trivial | exact fun _ h => absurd h (Nat.not_lt_zero _))); (focus ((repeat' apply And.intro) <;> first | exact trivial | (intro i _; rw [Nat.zero_add]; exact A.sim.refl _) | with_reducible exact rfl | exact fun _ _ => A.sim.refl _ | exact A.sim.refl _ | exact rfl | exact Nat.le_refl _ | omega | exact fun i _ => shift_sim _ _ i | exact fun _ _ => trivial | exact fun _ h => absurd h (Nat.not_lt_zero _))))
  refine W.run TsOK 156 hΓ 1000 ?_
  conv => whnf
  refine ⟨?_, ?_⟩
  repeat' first
    | assumption
    | exact Bool.noConfusion hb
    | exact absurd hb (by decide)
    | (exfalso; omega)
    | (refine W.branch rfl (fun hb => ?_) (fun hb => ?_) <;> ((try simp only [decide_eq_true_eq, decide_eq_false_iff_not, Bool.not_eq_true', Bool.not_eq_false', Int.not_lt, Int.not_le, cond_true, cond_false, reduceCtorEq, Int.toNat_natCast, Int.reduceToNat, addI] at hb); (try replace hb := of_decide_eq_true hb); (try replace hb := of_decide_eq_false hb)))
    | (refine W.go TsOK 156 hΓ 1000 rfl ?_; (conv => whnf); refine ⟨?_, ?_⟩)
  all_goals (repeat' apply And.intro)
  all_goals try (first
    | exact trivial
    | exact rfl
    | exact fun _ _ => A.sim.refl _
    | exact A.sim.refl _
    | exact Nat.le_refl _
    | omega
    | exact fun _ _ => trivial
    | exact fun i _ => shift_sim _ _ i
    | exact fun _ h => absurd h (Nat.not_lt_zero _)
    | exact fun i _ => isInt_byteAt _ i
    | exact fun i _ => ⟨⟨_, rfl⟩, ⟨_, rfl⟩⟩
    | (simp only [allP, List.nil_append, List.append_nil, List.cons_append, List.append_eq, and_true, true_and, inr_i64, inr_u8, inr_u64, min_i64, max_i64, min_u64, max_u64, min_u8, max_u8, A.purePL, A.pureP, A.sureP, A.surePL, Int.toNat_natCast, Int.reduceToNat, addI, cHi, cLo, hiN, loN, subO, addO, hasIdx, cond_true, cond_false]; (repeat' apply And.intro) <;> first | exact trivial | rfl | omega | decide)
    )
  have hZS : ∀ z ∈ [p, B, raw, []], z.length ≤ 1000000 ∧ ∀ x ∈ z, x.length = 32 := fun z hz => by
    simp only [List.mem_cons, List.not_mem_nil, or_false] at hz
    rcases hz with rfl | rfl | rfl | rfl
    · exact ⟨by omega, p32⟩
    · exact ⟨by omega, hB32⟩
    · exact ⟨by omega, hr32⟩
    · exact ⟨Nat.zero_le _, fun x hx => absurd hx (by simp)⟩
  refine W.loopA (Nat) (fun c => c ≤ 4) (fun c => 4 - c) (fun c => [(107, sl 1 (sl 32 hashA) [p, B, raw, []]), (109, .int .i64 c)]) (fun c => []) [30, 31, 32, 33, 34, 35, 36, 37, 38, 39, 40, 41, 42, 43, 44, 45, 46, 47, 48, 52, 53, 54, 55, 56, 57, 58, 59, 60, 61, 62, 63, 64, 65, 66, 67, 68, 69, 70, 71, 72, 73, 74, 75, 76, 77, 78, 79, 80, 81, 82, 83, 84, 85, 86, 87, 88, 89, 90, 91, 92, 93, 94, 95, 96, 97, 98, 99, 100, 101, 102, 103, 104, 105, 106] (0) ((by decide)) ?_
  (conv => whnf); refine ⟨?_, ?_⟩; focus ((conv => whnf); refine ⟨rfl, rfl, rfl, rfl, rfl, rfl, ?_, ?_⟩; (focus ((repeat' apply And.intro) <;> first | exact trivial | (intro i _; rw [Nat.zero_add]; exact A.sim.refl _) | with_reducible exact rfl | exact fun _ _ => A.sim.refl _ | exact A.sim.refl _ | exact rfl | exact Nat.le_refl _ | omega | exact fun i _ => shift_sim _ _ i | exact fun _ _ => trivial | exact fun _ h => absurd h (Nat.not_lt_zero _) | exact sim4a (A.sim.refl _) (A.sim.refl _) (A.sim.refl _) (A.sim.refl _) | exact sim4a (A.sim.refl _) (A.sim.refl _) (A.sim.refl _) nil_sim)); (focus ((repeat' apply And.intro) <;> first | exact trivial | (intro i _; rw [Nat.zero_add]; exact A.sim.refl _) | with_reducible exact rfl | exact fun _ _ => A.sim.refl _ | exact A.sim.refl _ | exact rfl | exact Nat.le_refl _ | omega | exact fun i _ => shift_sim _ _ i | exact fun _ _ => trivial | exact fun _ h => absurd h (Nat.not_lt_zero _) | exact sim4a (A.sim.refl _) (A.sim.refl _) (A.sim.refl _) (A.sim.refl _) | exact sim4a (A.sim.refl _) (A.sim.refl _) (A.sim.refl _) nil_sim)))
  rintro c hc ihc
  have hZl : ([p, B, raw, []] : List (List Hs)).length = 4 := rfl
  generalize ([p, B, raw, []] : List (List Hs)) = ZS at hZS hZl ihc ⊢
  by_cases hlc : c < 4
  rotate_left
  · skip
    refine W.run TsOK 156 hΓ 1000 ?_
    conv => whnf
    refine ⟨?_, ?_⟩
    repeat' first
      | assumption
      | exact Bool.noConfusion hb
      | exact absurd hb (by decide)
      | (exfalso; omega)
      | (refine W.toA (ih (i + 1) ?_ ?_) ?_; rotate_left 2; (conv => whnf); refine ⟨rfl, rfl, rfl, rfl, rfl, rfl, ?_, ?_⟩; (focus ((repeat' apply And.intro) <;> first | exact trivial | (intro i _; rw [Nat.zero_add]; exact A.sim.refl _) | with_reducible exact rfl | exact fun _ _ => A.sim.refl _ | exact A.sim.refl _ | exact rfl | exact Nat.le_refl _ | omega | exact fun i _ => shift_sim _ _ i | exact fun _ _ => trivial | exact fun _ h => absurd h (Nat.not_lt_zero _))); (focus ((repeat' apply And.intro) <;> first | exact trivial | (intro i _; rw [Nat.zero_add]; exact A.sim.refl _) | with_reducible exact rfl | exact fun _ _ => A.sim.refl _ | exact A.sim.refl _ | exact rfl | exact Nat.le_refl _ | omega | exact fun i _ => shift_sim _ _ i | exact fun _ _ => trivial | exact fun _ h => absurd h (Nat.not_lt_zero _))))
      | (refine W.branch rfl (fun hb => ?_) (fun hb => ?_) <;> ((try simp only [decide_eq_true_eq, decide_eq_false_iff_not, Bool.not_eq_true', Bool.not_eq_false', Int.not_lt, Int.not_le, cond_true, cond_false, reduceCtorEq, Int.toNat_natCast, Int.reduceToNat, addI] at hb); (try replace hb := of_decide_eq_true hb); (try replace hb := of_decide_eq_false hb)))
      | (refine W.go TsOK 156 hΓ 1000 rfl ?_; (conv => whnf); refine ⟨?_, ?_⟩)
    all_goals (repeat' apply And.intro)
    all_goals try (first
      | exact trivial
      | exact rfl
      | exact fun _ _ => A.sim.refl _
      | exact A.sim.refl _
      | exact Nat.le_refl _
      | omega
      | exact fun _ _ => trivial
      | exact fun i _ => shift_sim _ _ i
      | exact fun _ h => absurd h (Nat.not_lt_zero _)
      | exact fun i _ => isInt_byteAt _ i
      | (simp only [allP, List.nil_append, List.append_nil, List.cons_append, List.append_eq, and_true, true_and, inr_i64, inr_u8, inr_u64, min_i64, max_i64, min_u64, max_u64, min_u8, max_u8, A.purePL, A.pureP, A.sureP, A.surePL, Int.toNat_natCast, Int.reduceToNat, addI, cHi, cLo, hiN, loN, subO, addO, hasIdx, cond_true, cond_false]; (repeat' apply And.intro) <;> first | exact trivial | rfl | omega | decide)
      )
  obtain ⟨hZ, hZ32⟩ := sl_get hZS (by omega : c < ZS.length)
  obtain ⟨m3, hm3⟩ : ∃ m3 : Nat, m3 = what.toNat % 3 := ⟨_, rfl⟩
  have hm3w : IntKind.i64.wrap ((what.toNat : Int) % 3) = (m3 : Int) := by rw [wrap_i64_in (by omega) (by omega), hm3]; omega
  refine W.run TsOK 156 hΓ 1000 ?_
  conv => whnf
  refine ⟨?_, ?_⟩
  repeat' first
    | assumption
    | exact Bool.noConfusion hb
    | exact absurd hb (by decide)
    | (exfalso; omega)
    | (refine W.branch rfl (fun hb => ?_) (fun hb => ?_) <;> ((try simp only [decide_eq_true_eq, decide_eq_false_iff_not, Bool.not_eq_true', Bool.not_eq_false', Int.not_lt, Int.not_le, cond_true, cond_false, reduceCtorEq, Int.toNat_natCast, Int.reduceToNat, addI] at hb); (try replace hb := of_decide_eq_true hb); (try replace hb := of_decide_eq_false hb)))
    | (refine W.go TsOK 156 hΓ 1000 rfl ?_; (conv => whnf); refine ⟨?_, ?_⟩)
  all_goals (repeat' apply And.intro)
  all_goals try (first
    | exact trivial
    | exact rfl
    | exact fun _ _ => A.sim.refl _
    | exact A.sim.refl _
    | exact Nat.le_refl _
    | omega
    | exact fun _ _ => trivial
    | exact fun i _ => shift_sim _ _ i
    | exact fun _ h => absurd h (Nat.not_lt_zero _)
    | exact fun i _ => isInt_byteAt _ i
    | exact fun i _ => ⟨⟨_, rfl⟩, ⟨_, rfl⟩⟩
    | (rw [hm3w]; simp only [max_i64]; omega)
    | (rw [hm3w]; simp only [min_i64]; omega)
    | (simp only [allP, List.nil_append, List.append_nil, List.cons_append, List.append_eq, and_true, true_and, inr_i64, inr_u8, inr_u64, min_i64, max_i64, min_u64, max_u64, min_u8, max_u8, A.purePL, A.pureP, A.sureP, A.surePL, Int.toNat_natCast, Int.reduceToNat, addI, cHi, cLo, hiN, loN, subO, addO, hasIdx, cond_true, cond_false]; (repeat' apply And.intro) <;> first | exact trivial | rfl | omega | decide)
    )
  have hCS : ∀ a ∈ [(L.length : Int), n, (L.length : Int) + m3 - 1], inr .i64 a := all3 (inr_i64.2 (by omega)) hn (inr_i64.2 (by omega))
  refine W.loopA (Nat) (fun d => d ≤ 3) (fun d => 3 - d) (fun d => [(123, sl 1 (A.int .i64) [(L.length : Int), n, (L.length : Int) + m3 - 1]), (125, .int .i64 d)]) (fun d => []) [30, 31, 32, 33, 34, 35, 36, 37, 38, 39, 40, 41, 42, 43, 44, 45, 46, 47, 48, 52, 53, 54, 55, 56, 57, 58, 59, 60, 61, 62, 63, 64, 65, 66, 67, 68, 69, 70, 71, 72, 73, 74, 75, 76, 77, 78, 79, 80, 81, 82, 83, 84, 85, 86, 87, 88, 89, 90, 91, 92, 93, 94, 95, 96, 97, 98, 99, 100, 101, 102, 103, 104, 105, 106, 110, 111, 112, 113, 114, 115, 116, 117, 118, 119, 120, 121, 122] (0) ((by decide)) ?_
  (conv => whnf); refine ⟨?_, ?_⟩; focus ((conv => whnf); refine ⟨rfl, rfl, rfl, rfl, rfl, rfl, ?_, ?_⟩; (focus ((repeat' apply And.intro) <;> first | exact trivial | (intro i _; rw [Nat.zero_add]; exact A.sim.refl _) | with_reducible exact rfl | exact fun _ _ => A.sim.refl _ | exact A.sim.refl _ | exact rfl | exact Nat.le_refl _ | omega | exact fun i _ => shift_sim _ _ i | exact fun _ _ => trivial | exact fun _ h => absurd h (Nat.not_lt_zero _) | exact sim3a (A.sim.refl _) (A.sim.refl _) (A.sim.of (congrArg (fun q => A.int .i64 ((L.length : Int) + q - 1)) hm3w)))); (focus ((repeat' apply And.intro) <;> first | exact trivial | (intro i _; rw [Nat.zero_add]; exact A.sim.refl _) | with_reducible exact rfl | exact fun _ _ => A.sim.refl _ | exact A.sim.refl _ | exact rfl | exact Nat.le_refl _ | omega | exact fun i _ => shift_sim _ _ i | exact fun _ _ => trivial | exact fun _ h => absurd h (Nat.not_lt_zero _) | exact sim3a (A.sim.refl _) (A.sim.refl _) (A.sim.of (congrArg (fun q => A.int .i64 ((L.length : Int) + q - 1)) hm3w)))))
  rintro d hd ihd
  have hCl : ([(L.length : Int), n, (L.length : Int) + m3 - 1] : List Int).length = 3 := rfl
  generalize ([(L.length : Int), n, (L.length : Int) + m3 - 1] : List Int) = CS at hCS hCl ihd ⊢
  by_cases hld : d < 3
  rotate_left
  · skip
    refine W.run TsOK 156 hΓ 1000 ?_
    conv => whnf
    refine ⟨?_, ?_⟩
    repeat' first
      | assumption
      | exact Bool.noConfusion hb
      | exact absurd hb (by decide)
      | (exfalso; omega)
      | (refine W.toA (ihc (c + 1) ?_ ?_) ?_; rotate_left 2; (conv => whnf); refine ⟨rfl, rfl, rfl, rfl, rfl, rfl, ?_, ?_⟩; (focus ((repeat' apply And.intro) <;> first | exact trivial | (intro i _; rw [Nat.zero_add]; exact A.sim.refl _) | with_reducible exact rfl | exact fun _ _ => A.sim.refl _ | exact A.sim.refl _ | exact rfl | exact Nat.le_refl _ | omega | exact fun i _ => shift_sim _ _ i | exact fun _ _ => trivial | exact fun _ h => absurd h (Nat.not_lt_zero _))); (focus ((repeat' apply And.intro) <;> first | exact trivial | (intro i _; rw [Nat.zero_add]; exact A.sim.refl _) | with_reducible exact rfl | exact fun _ _ => A.sim.refl _ | exact A.sim.refl _ | exact rfl | exact Nat.le_refl _ | omega | exact fun i _ => shift_sim _ _ i | exact fun _ _ => trivial | exact fun _ h => absurd h (Nat.not_lt_zero _))))
      | (refine W.branch rfl (fun hb => ?_) (fun hb => ?_) <;> ((try simp only [decide_eq_true_eq, decide_eq_false_iff_not, Bool.not_eq_true', Bool.not_eq_false', Int.not_lt, Int.not_le, cond_true, cond_false, reduceCtorEq, Int.toNat_natCast, Int.reduceToNat, addI] at hb); (try replace hb := of_decide_eq_true hb); (try replace hb := of_decide_eq_false hb)))
      | (refine W.go TsOK 156 hΓ 1000 rfl ?_; (conv => whnf); refine ⟨?_, ?_⟩)
    all_goals (repeat' apply And.intro)
    all_goals try (first
      | exact trivial
      | exact rfl
      | exact fun _ _ => A.sim.refl _
      | exact A.sim.refl _
      | exact Nat.le_refl _
      | omega
      | exact fun _ _ => trivial
      | exact fun i _ => shift_sim _ _ i
      | exact fun _ h => absurd h (Nat.not_lt_zero _)
      | exact fun i _ => isInt_byteAt _ i
      | (simp only [allP, List.nil_append, List.append_nil, List.cons_append, List.append_eq, and_true, true_and, inr_i64, inr_u8, inr_u64, min_i64, max_i64, min_u64, max_u64, min_u8, max_u8, A.purePL, A.pureP, A.sureP, A.surePL, Int.toNat_natCast, Int.reduceToNat, addI, cHi, cLo, hiN, loN, subO, addO, hasIdx, cond_true, cond_false]; (repeat' apply And.intro) <;> first | exact trivial | rfl | omega | decide)
      )
  have hC1 := sl_get hCS (by omega : d < CS.length)
  refine W.run TsOK 156 hΓ 1000 ?_
  conv => whnf
  refine ⟨?_, ?_⟩
  repeat' first
    | assumption
    | exact Bool.noConfusion hb
    | exact absurd hb (by decide)
    | (exfalso; omega)
    | (refine W.branch rfl (fun hb => ?_) (fun hb => ?_) <;> ((try simp only [decide_eq_true_eq, decide_eq_false_iff_not, Bool.not_eq_true', Bool.not_eq_false', Int.not_lt, Int.not_le, cond_true, cond_false, reduceCtorEq, Int.toNat_natCast, Int.reduceToNat, addI] at hb); (try replace hb := of_decide_eq_true hb); (try replace hb := of_decide_eq_false hb)))
    | (refine W.go TsOK 156 hΓ 1000 rfl ?_; (conv => whnf); refine ⟨?_, ?_⟩)
  all_goals (repeat' apply And.intro)
  all_goals try (first
    | exact trivial
    | exact rfl
    | exact fun _ _ => A.sim.refl _
    | exact A.sim.refl _
    | exact Nat.le_refl _
    | omega
    | exact fun _ _ => trivial
    | exact fun i _ => shift_sim _ _ i
    | exact fun _ h => absurd h (Nat.not_lt_zero _)
    | exact fun i _ => isInt_byteAt _ i
    | exact fun i _ => ⟨⟨_, rfl⟩, ⟨_, rfl⟩⟩
    | (simp only [allP, List.nil_append, List.append_nil, List.cons_append, List.append_eq, and_true, true_and, inr_i64, inr_u8, inr_u64, min_i64, max_i64, min_u64, max_u64, min_u8, max_u8, A.purePL, A.pureP, A.sureP, A.surePL, Int.toNat_natCast, Int.reduceToNat, addI, cHi, cLo, hiN, loN, subO, addO, hasIdx, cond_true, cond_false]; (repeat' apply And.intro) <;> first | exact trivial | rfl | omega | decide)
    )
  have hFS : ∀ x ∈ [old, h], x.length = 32 := fun x hx => by
    simp only [List.mem_cons, List.not_mem_nil, or_false] at hx
    rcases hx with rfl | rfl
    · exact ro32
    · exact hh
  refine W.loopA (Nat) (fun e => e ≤ 2) (fun e => 2 - e) (fun e => [(131, sl 32 hashA [old, h]), (133, .int .i64 e)]) (fun e => []) [30, 31, 32, 33, 34, 35, 36, 37, 38, 39, 40, 41, 42, 43, 44, 45, 46, 47, 48, 52, 53, 54, 55, 56, 57, 58, 59, 60, 61, 62, 63, 64, 65, 66, 67, 68, 69, 70, 71, 72, 73, 74, 75, 76, 77, 78, 79, 80, 81, 82, 83, 84, 85, 86, 87, 88, 89, 90, 91, 92, 93, 94, 95, 96, 97, 98, 99, 100, 101, 102, 103, 104, 105, 106, 110, 111, 112, 113, 114, 115, 116, 117, 118, 119, 120, 121, 122, 126, 127, 128, 129, 130] (0) ((by decide)) ?_
  (conv => whnf); refine ⟨?_, ?_⟩; focus ((conv => whnf); refine ⟨rfl, rfl, rfl, rfl, rfl, rfl, ?_, ?_⟩; (focus ((repeat' apply And.intro) <;> first | exact trivial | (intro i _; rw [Nat.zero_add]; exact A.sim.refl _) | with_reducible exact rfl | exact fun _ _ => A.sim.refl _ | exact A.sim.refl _ | exact rfl | exact Nat.le_refl _ | omega | exact fun i _ => shift_sim _ _ i | exact fun _ _ => trivial | exact fun _ h => absurd h (Nat.not_lt_zero _) | exact sim2a (A.sim.refl _) (A.sim.refl _))); (focus ((repeat' apply And.intro) <;> first | exact trivial | (intro i _; rw [Nat.zero_add]; exact A.sim.refl _) | with_reducible exact rfl | exact fun _ _ => A.sim.refl _ | exact A.sim.refl _ | exact rfl | exact Nat.le_refl _ | omega | exact fun i _ => shift_sim _ _ i | exact fun _ _ => trivial | exact fun _ h => absurd h (Nat.not_lt_zero _) | exact sim2a (A.sim.refl _) (A.sim.refl _))))
  rintro e he ihe
  have hFl : ([old, h] : List Hs).length = 2 := rfl
  generalize ([old, h] : List Hs) = FS at hFS hFl ihe ⊢
  by_cases hle : e < 2
  rotate_left
  · skip
    refine W.run TsOK 156 hΓ 1000 ?_
    conv => whnf
    refine ⟨?_, ?_⟩
    repeat' first
      | assumption
      | exact Bool.noConfusion hb
      | exact absurd hb (by decide)
      | (exfalso; omega)
      | (refine W.toA (ihd (d + 1) ?_ ?_) ?_; rotate_left 2; (conv => whnf); refine ⟨rfl, rfl, rfl, rfl, rfl, rfl, ?_, ?_⟩; (focus ((repeat' apply And.intro) <;> first | exact trivial | (intro i _; rw [Nat.zero_add]; exact A.sim.refl _) | with_reducible exact rfl | exact fun _ _ => A.sim.refl _ | exact A.sim.refl _ | exact rfl | exact Nat.le_refl _ | omega | exact fun i _ => shift_sim _ _ i | exact fun _ _ => trivial | exact fun _ h => absurd h (Nat.not_lt_zero _))); (focus ((repeat' apply And.intro) <;> first | exact trivial | (intro i _; rw [Nat.zero_add]; exact A.sim.refl _) | with_reducible exact rfl | exact fun _ _ => A.sim.refl _ | exact A.sim.refl _ | exact rfl | exact Nat.le_refl _ | omega | exact fun i _ => shift_sim _ _ i | exact fun _ _ => trivial | exact fun _ h => absurd h (Nat.not_lt_zero _))))
      | (refine W.branch rfl (fun hb => ?_) (fun hb => ?_) <;> ((try simp only [decide_eq_true_eq, decide_eq_false_iff_not, Bool.not_eq_true', Bool.not_eq_false', Int.not_lt, Int.not_le, cond_true, cond_false, reduceCtorEq, Int.toNat_natCast, Int.reduceToNat, addI] at hb); (try replace hb := of_decide_eq_true hb); (try replace hb := of_decide_eq_false hb)))
      | (refine W.go TsOK 156 hΓ 1000 rfl ?_; (conv => whnf); refine ⟨?_, ?_⟩)
    all_goals (repeat' apply And.intro)
    all_goals try (first
      | exact trivial
      | exact rfl
      | exact fun _ _ => A.sim.refl _
      | exact A.sim.refl _
      | exact Nat.le_refl _
      | omega
      | exact fun _ _ => trivial
      | exact fun i _ => shift_sim _ _ i
      | exact fun _ h => absurd h (Nat.not_lt_zero _)
      | exact fun i _ => isInt_byteAt _ i
      | (simp only [allP, List.nil_append, List.append_nil, List.cons_append, List.append_eq, and_true, true_and, inr_i64, inr_u8, inr_u64, min_i64, max_i64, min_u64, max_u64, min_u8, max_u8, A.purePL, A.pureP, A.sureP, A.surePL, Int.toNat_natCast, Int.reduceToNat, addI, cHi, cLo, hiN, loN, subO, addO, hasIdx, cond_true, cond_false]; (repeat' apply And.intro) <;> first | exact trivial | rfl | omega | decide)
      )
  have f32 : (FS.getD e default).length = 32 := sl_get hFS (by omega : e < FS.length)
  have g1 := gcheck_does (FS.getD e default) (rootS L) (MS.getD i default) (CS.getD d default) (ZS.getD c default) f32 rl hA1 hC1 hZ hZ32
  have g2 := grown_does (FS.getD e default) (rootS L) (MS.getD i default) (CS.getD d default) (ZS.getD c default) f32 rl hA1 hC1 (by omega) hZ32
  refine W.run TsOK 156 hΓ 1000 ?_
  conv => whnf
  refine ⟨?_, ?_⟩
  repeat' first
    | assumption
    | exact Bool.noConfusion hb
    | exact absurd hb (by decide)
    | (exfalso; omega)
    | (exfalso; simp at hb; done)
    | (refine W.toA (ihe (e + 1) ?_ ?_) ?_; rotate_left 2; (conv => whnf); refine ⟨rfl, rfl, rfl, rfl, rfl, rfl, ?_, ?_⟩; (focus ((repeat' apply And.intro) <;> first | exact trivial | (intro i _; rw [Nat.zero_add]; exact A.sim.refl _) | with_reducible exact rfl | exact fun _ _ => A.sim.refl _ | exact A.sim.refl _ | exact rfl | exact Nat.le_refl _ | omega | exact fun i _ => shift_sim _ _ i | exact fun _ _ => trivial | exact fun _ h => absurd h (Nat.not_lt_zero _))); (focus ((repeat' apply And.intro) <;> first | exact trivial | (intro i _; rw [Nat.zero_add]; exact A.sim.refl _) | with_reducible exact rfl | exact fun _ _ => A.sim.refl _ | exact A.sim.refl _ | exact rfl | exact Nat.le_refl _ | omega | exact fun i _ => shift_sim _ _ i | exact fun _ _ => trivial | exact fun _ h => absurd h (Nat.not_lt_zero _))))
    | (refine W.retY TsOK rfl rfl ⟨?_, ?_⟩)
    | (refine W.branch rfl (fun hb => ?_) (fun hb => ?_) <;> ((try simp only [decide_eq_true_eq, decide_eq_false_iff_not, Bool.not_eq_true', Bool.not_eq_false', Int.not_lt, Int.not_le, cond_true, cond_false, reduceCtorEq, Int.toNat_natCast, Int.reduceToNat, addI] at hb); (try replace hb := of_decide_eq_true hb); (try replace hb := of_decide_eq_false hb)))
    | (refine D.branch rfl (fun hb => ?_) (fun hb => ?_) <;> ((try simp only [decide_eq_true_eq, decide_eq_false_iff_not, Bool.not_eq_true', Bool.not_eq_false', Int.not_lt, Int.not_le, cond_true, cond_false, reduceCtorEq, Int.toNat_natCast, Int.reduceToNat, addI] at hb); (try replace hb := of_decide_eq_true hb); (try replace hb := of_decide_eq_false hb)))
    | (refine D.callA (r1) rfl rfl rfl rfl hΓ rfl ?_; (conv => whnf); refine ⟨rfl, rfl, rfl, ?_, ?_, ?_, ?_⟩; (focus ((repeat' apply And.intro) <;> first | exact trivial | (intro i _; rw [Nat.zero_add]; exact A.sim.refl _) | with_reducible exact rfl | exact fun _ _ => A.sim.refl _ | exact A.sim.refl _ | exact rfl | exact Nat.le_refl _ | omega | exact fun i _ => shift_sim _ _ i | exact fun _ _ => trivial | exact fun _ h => absurd h (Nat.not_lt_zero _))); (focus ((repeat' apply And.intro) <;> first | exact trivial | (intro i _; rw [Nat.zero_add]; exact A.sim.refl _) | with_reducible exact rfl | exact fun _ _ => A.sim.refl _ | exact A.sim.refl _ | exact rfl | exact Nat.le_refl _ | omega | exact fun i _ => shift_sim _ _ i | exact fun _ _ => trivial | exact fun _ h => absurd h (Nat.not_lt_zero _))); (focus ((repeat' apply And.intro) <;> first | exact trivial | (intro i _; rw [Nat.zero_add]; exact A.sim.refl _) | with_reducible exact rfl | exact fun _ _ => A.sim.refl _ | exact A.sim.refl _ | exact rfl | exact Nat.le_refl _ | omega | exact fun i _ => shift_sim _ _ i | exact fun _ _ => trivial | exact fun _ h => absurd h (Nat.not_lt_zero _))); (conv => whnf))
    | (refine W.callA (r1) rfl rfl rfl rfl hΓ rfl ?_; (conv => whnf); refine ⟨rfl, rfl, ?_, ?_, ?_, ?_⟩; (focus ((repeat' apply And.intro) <;> first | exact trivial | (intro i _; rw [Nat.zero_add]; exact A.sim.refl _) | with_reducible exact rfl | exact fun _ _ => A.sim.refl _ | exact A.sim.refl _ | exact rfl | exact Nat.le_refl _ | omega | exact fun i _ => shift_sim _ _ i | exact fun _ _ => trivial | exact fun _ h => absurd h (Nat.not_lt_zero _))); (focus ((repeat' apply And.intro) <;> first | exact trivial | (intro i _; rw [Nat.zero_add]; exact A.sim.refl _) | with_reducible exact rfl | exact fun _ _ => A.sim.refl _ | exact A.sim.refl _ | exact rfl | exact Nat.le_refl _ | omega | exact fun i _ => shift_sim _ _ i | exact fun _ _ => trivial | exact fun _ h => absurd h (Nat.not_lt_zero _))); (focus ((repeat' apply And.intro) <;> first | exact trivial | (intro i _; rw [Nat.zero_add]; exact A.sim.refl _) | with_reducible exact rfl | exact fun _ _ => A.sim.refl _ | exact A.sim.refl _ | exact rfl | exact Nat.le_refl _ | omega | exact fun i _ => shift_sim _ _ i | exact fun _ _ => trivial | exact fun _ h => absurd h (Nat.not_lt_zero _))); (conv => whnf))
    | (refine D.callA (g1) rfl rfl rfl rfl hΓ rfl ?_; (conv => whnf); refine ⟨rfl, rfl, rfl, ?_, ?_, ?_, ?_⟩; (focus ((repeat' apply And.intro) <;> first | exact trivial | (intro i _; rw [Nat.zero_add]; exact A.sim.refl _) | with_reducible exact rfl | exact fun _ _ => A.sim.refl _ | exact A.sim.refl _ | exact rfl | exact Nat.le_refl _ | omega | exact fun i _ => shift_sim _ _ i | exact fun _ _ => trivial | exact fun _ h => absurd h (Nat.not_lt_zero _))); (focus ((repeat' apply And.intro) <;> first | exact trivial | (intro i _; rw [Nat.zero_add]; exact A.sim.refl _) | with_reducible exact rfl | exact fun _ _ => A.sim.refl _ | exact A.sim.refl _ | exact rfl | exact Nat.le_refl _ | omega | exact fun i _ => shift_sim _ _ i | exact fun _ _ => trivial | exact fun _ h => absurd h (Nat.not_lt_zero _))); (focus ((repeat' apply And.intro) <;> first | exact trivial | (intro i _; rw [Nat.zero_add]; exact A.sim.refl _) | with_reducible exact rfl | exact fun _ _ => A.sim.refl _ | exact A.sim.refl _ | exact rfl | exact Nat.le_refl _ | omega | exact fun i _ => shift_sim _ _ i | exact fun _ _ => trivial | exact fun _ h => absurd h (Nat.not_lt_zero _))); (conv => whnf))
    | (refine W.callA (g1) rfl rfl rfl rfl hΓ rfl ?_; (conv => whnf); refine ⟨rfl, rfl, ?_, ?_, ?_, ?_⟩; (focus ((repeat' apply And.intro) <;> first | exact trivial | (intro i _; rw [Nat.zero_add]; exact A.sim.refl _) | with_reducible exact rfl | exact fun _ _ => A.sim.refl _ | exact A.sim.refl _ | exact rfl | exact Nat.le_refl _ | omega | exact fun i _ => shift_sim _ _ i | exact fun _ _ => trivial | exact fun _ h => absurd h (Nat.not_lt_zero _))); (focus ((repeat' apply And.intro) <;> first | exact trivial | (intro i _; rw [Nat.zero_add]; exact A.sim.refl _) | with_reducible exact rfl | exact fun _ _ => A.sim.refl _ | exact A.sim.refl _ | exact rfl | exact Nat.le_refl _ | omega | exact fun i _ => shift_sim _ _ i | exact fun _ _ => trivial | exact fun _ h => absurd h (Nat.not_lt_zero _))); (focus ((repeat' apply And.intro) <;> first | exact trivial | (intro i _; rw [Nat.zero_add]; exact A.sim.refl _) | with_reducible exact rfl | exact fun _ _ => A.sim.refl _ | exact A.sim.refl _ | exact rfl | exact Nat.le_refl _ | omega | exact fun i _ => shift_sim _ _ i | exact fun _ _ => trivial | exact fun _ h => absurd h (Nat.not_lt_zero _))); (conv => whnf))
    | (refine D.callA (g2) rfl rfl rfl rfl hΓ rfl ?_; (conv => whnf); refine ⟨rfl, rfl, rfl, ?_, ?_, ?_, ?_⟩; (focus ((repeat' apply And.intro) <;> first | exact trivial | (intro i _; rw [Nat.zero_add]; exact A.sim.refl _) | with_reducible exact rfl | exact fun _ _ => A.sim.refl _ | exact A.sim.refl _ | exact rfl | exact Nat.le_refl _ | omega | exact fun i _ => shift_sim _ _ i | exact fun _ _ => trivial | exact fun _ h => absurd h (Nat.not_lt_zero _))); (focus ((repeat' apply And.intro) <;> first | exact trivial | (intro i _; rw [Nat.zero_add]; exact A.sim.refl _) | with_reducible exact rfl | exact fun _ _ => A.sim.refl _ | exact A.sim.refl _ | exact rfl | exact Nat.le_refl _ | omega | exact fun i _ => shift_sim _ _ i | exact fun _ _ => trivial | exact fun _ h => absurd h (Nat.not_lt_zero _))); (focus ((repeat' apply And.intro) <;> first | exact trivial | (intro i _; rw [Nat.zero_add]; exact A.sim.refl _) | with_reducible exact rfl | exact fun _ _ => A.sim.refl _ | exact A.sim.refl _ | exact rfl | exact Nat.le_refl _ | omega | exact fun i _ => shift_sim _ _ i | exact fun _ _ => trivial | exact fun _ h => absurd h (Nat.not_lt_zero _))); (conv => whnf))
    | (refine W.callA (g2) rfl rfl rfl rfl hΓ rfl ?_; (conv => whnf); refine ⟨rfl, rfl, ?_, ?_, ?_, ?_⟩; (focus ((repeat' apply And.intro) <;> first | exact trivial | (intro i _; rw [Nat.zero_add]; exact A.sim.refl _) | with_reducible exact rfl | exact fun _ _ => A.sim.refl _ | exact A.sim.refl _ | exact rfl | exact Nat.le_refl _ | omega | exact fun i _ => shift_sim _ _ i | exact fun _ _ => trivial | exact fun _ h => absurd h (Nat.not_lt_zero _))); (focus ((repeat' apply And.intro) <;> first | exact trivial | (intro i _; rw [Nat.zero_add]; exact A.sim.refl _) | with_reducible exact rfl | exact fun _ _ => A.sim.refl _ | exact A.sim.refl _ | exact rfl | exact Nat.le_refl _ | omega | exact fun i _ => shift_sim _ _ i | exact fun _ _ => trivial | exact fun _ h => absurd h (Nat.not_lt_zero _))); (focus ((repeat' apply And.intro) <;> first | exact trivial | (intro i _; rw [Nat.zero_add]; exact A.sim.refl _) | with_reducible exact rfl | exact fun _ _ => A.sim.refl _ | exact A.sim.refl _ | exact rfl | exact Nat.le_refl _ | omega | exact fun i _ => shift_sim _ _ i | exact fun _ _ => trivial | exact fun _ h => absurd h (Nat.not_lt_zero _))); (conv => whnf))
    | (refine W.go TsOK 156 hΓ 1000 rfl ?_; (conv => whnf); refine ⟨?_, ?_⟩)
    | (refine D.go TsOK 156 hΓ 1000 rfl ?_; (conv => whnf); refine ⟨?_, ?_⟩)
    | (refine W.drawn rfl rfl ?_; refine D.run TsOK 156 hΓ 1000 ?_; (conv => whnf); refine ⟨?_, ?_⟩)
  all_goals (repeat' apply And.intro)
  all_goals try (first
    | exact trivial
    | exact rfl
    | exact fun _ _ => A.sim.refl _
    | exact A.sim.refl _
    | exact Nat.le_refl _
    | omega
    | exact fun _ _ => trivial
    | exact fun i _ => shift_sim _ _ i
    | exact fun _ h => absurd h (Nat.not_lt_zero _)
    | exact fun i _ => isInt_byteAt _ i
    | exact fun i _ => ⟨⟨_, rfl⟩, ⟨_, rfl⟩⟩
    | (simp only [allP, List.nil_append, List.append_nil, List.cons_append, List.append_eq, and_true, true_and, inr_i64, inr_u8, inr_u64, min_i64, max_i64, min_u64, max_u64, min_u8, max_u8, A.purePL, A.pureP, A.sureP, A.surePL, Int.toNat_natCast, Int.reduceToNat, addI, cHi, cLo, hiN, loN, subO, addO, hasIdx, cond_true, cond_false]; (repeat' apply And.intro) <;> first | exact trivial | rfl | omega | decide)
    )

theorem growTells_law (x0 x1 x2 x3 x4 x5 x6 : A) (s0 : Shaped (.slice (.int .u8)) x0) (s1 : Shaped (.slice (.arr 32 (.int .u8))) x1) (s2 : Shaped (.int .i64) x2) (s3 : Shaped (.int .i64) x3) (s4 : Shaped (.int .u8) x4) (s5 : Shaped (.arr 32 (.int .u8)) x5) (s6 : Shaped (.int .u8) x6) : Does Try.prog 3 [x0, x1, x2, x3, x4, x5, x6] [] [] Yes := by
  obtain ⟨a0, e0, h0⟩ := Rep.bytes x0 s0
  obtain ⟨a1, e1, h1⟩ := (Rep.slice Rep.hash) x1 s1
  obtain ⟨a2, e2, h2⟩ := (Rep.int .i64) x2 s2
  obtain ⟨a3, e3, h3⟩ := (Rep.int .i64) x3 s3
  obtain ⟨a4, e4, h4⟩ := Rep.byte x4 s4
  obtain ⟨a5, e5, h5⟩ := Rep.hash x5 s5
  obtain ⟨a6, e6, h6⟩ := Rep.byte x6 s6
  exact Does.args (ys := [bytesA a0, (sl (Sh.size (.arr 32 (.int .u8))) hashA) a1, (A.int .i64) a2, (A.int .i64) a3, VX.byte a4, hashA a5, VX.byte a6]) ⟨e0, e1, e2, e3, e4, e5, e6, trivial⟩ ⟨s0.pure, s1.pure, s2.pure, s3.pure, s4.pure, s5.pure, s6.pure, trivial⟩ (tells_does a0 a1 a2 a3 a4 a5 a6 h0 h1.1 h1.2 h2 h3 h5)
end Go.Proofs.Ytfgpiobnmddmhaa
