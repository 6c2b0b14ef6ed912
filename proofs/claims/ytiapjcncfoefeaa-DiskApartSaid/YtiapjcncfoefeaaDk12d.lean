/- Walks: the disk: Cut. -/
import Derived.Test.YtiapjcncfoefeaaDk12c
set_option linter.unusedSimpArgs false
set_option linter.unusedVariables false
namespace Go.Proofs.Ytiapjcncfoefeaa
open VX
set_option maxRecDepth 100000
set_option maxHeartbeats 4000000

def Ts14 : Tab := { l := tabL, stop := [14] }
theorem Ts14OK : TabOK Try.prog Ts14.l := tabOK
def Ts18 : Tab := { l := tabL, stop := [18] }
theorem Ts18OK : TabOK Try.prog Ts18.l := tabOK
theorem shr_nat (m i : Nat) (hm : m < 18446744073709551616) : shrI .u64 (m : Int) (i : Int) = ((m / 2 ^ (min i 64) : Nat) : Int) := by
  unfold shrI
  rw [Int.toNat_natCast, Int.fdiv_eq_ediv_of_nonneg _ (by exact Int.le_of_lt (Int.pow_pos (by decide)))]
  show (m : Int) / 2 ^ (min i 64) = _
  rw [Int.natCast_ediv, Int.natCast_pow]
  rfl
theorem mask_bit (m i : Nat) (hm : m < 18446744073709551616) : bitsI .and .u64 (shrI .u64 (m : Int) (i : Int)) 1 = if m.testBit i = true then 1 else 0 := by
  rw [shr_nat m i hm]
  have h1 : m / 2 ^ (min i 64) % 2 = if m.testBit i = true then 1 else 0 := by
    by_cases h : i < 64
    · rw [Nat.min_eq_left (by omega), Nat.testBit_eq_decide_div_mod_eq]
      by_cases h2 : m / 2 ^ i % 2 = 1
      · simp [h2]
      · simp [h2]; omega
    · rw [Nat.min_eq_right (by omega), Nat.testBit_lt_two_pow (show m < 2 ^ i from Nat.lt_of_lt_of_le hm (Nat.pow_le_pow_right (n := 2) (by decide) (show 64 ≤ i by omega)))]
      rw [Nat.div_eq_of_lt hm]
      rfl
  generalize m / 2 ^ (min i 64) = q at h1 ⊢
  have h2 : bitsI .and .u64 (q : Int) 1 = ((q % 2 : Nat) : Int) := by
    unfold bitsI
    show IntKind.u64.wrap (((BitVec.ofInt 64 (q : Int)) &&& (BitVec.ofInt 64 1)).toNat : Int) = _
    rw [BitVec.toNat_and]
    have e1 : (BitVec.ofInt 64 1).toNat = 1 := by decide
    have e2 : (BitVec.ofInt 64 (q : Int)).toNat = q % 18446744073709551616 := by
      rw [BitVec.toNat_ofInt]
      omega
    rw [e1, e2, Nat.and_one_is_mod, Nat.mod_mod_of_dvd q (show 2 ∣ 18446744073709551616 by decide)]
    exact wrap_inr ⟨by rw [min_u64]; omega, by rw [max_u64]; omega⟩
  rw [h2, h1]
  split <;> rfl
theorem sure_sim (x : DK.F) (m : Nat) (t l : Int) : ∀ j, j < (x.s ++ DK.lefts m t l x.ps 0).length → (byteAt x.b j).sim (byteAt (x.s ++ DK.lefts m t l x.ps 0) j) := fun j hj => A.sim.of (by
  have e : x.s ++ DK.lefts m t l x.ps 0 = x.s := List.append_nil _
  rw [e] at hj ⊢
  rw [DK.F.b, ← cat_fun rfl, catF_lt hj])
theorem end_len (l m : List UInt8) : (l ++ m).length = (DK.F.b ⟨l ++ m, []⟩).length := by simp [DK.F.b]
theorem end_sim (l m : List UInt8) : ∀ j, j < (DK.F.b ⟨l ++ m, []⟩).length → (byteAt (l ++ m) j).sim (byteAt (DK.F.b ⟨l ++ m, []⟩) j) := fun j _ => A.sim.of (by simp [DK.F.b])
theorem min64 (n : Nat) : (if (64 : Int) < (n : Int) then (64 : Int) else (n : Int)) = ((min n 64 : Nat) : Int) := by
  split <;> omega
theorem cat_zero {out : List UInt8} {o n m : Nat} (ho : o = out.length) (hm : m ≤ o + n) : ∀ j, j < m → (catF o (byteAt out) (fun _ => .int .u8 0) j).sim (byteAt (out ++ List.replicate n 0) j) := fun j hj => A.sim.of (by
  subst ho
  rw [← cat_fun rfl]
  by_cases h : j < out.length
  · rw [catF_lt h, catF_lt h]
  · rw [catF_ge (by omega), catF_ge (by omega)]
    unfold byteAt
    rw [List.getD_eq_getElem?_getD, List.getElem?_replicate]
    split <;> rfl)

theorem crash_0 (d : DK.D) (m : Nat) (t : Int) (hm : m < 18446744073709551616) (ho : DK.Ok d) : Does Try.prog 21 [.ptr 1000 [.fld 0 9, .fld 0 3], .int .u64 m, .int .i64 t] (DR d) [1, 2] (Is (.tup []) (diskR 1000 1 2 1003 1004 1005 1006 (DK.set d 0 (DK.crashF m t d.f0)))) := by
  have h1 := ho.b0
  have h2 := ho.b1
  have h3 := ho.b2
  have h4 := ho.p0
  have h5 := ho.p1
  have h6 := ho.p2
  have hsb := DK.sure_le d.f0
  refine Does.intro (fn := Try.f21) Try.func21 rfl rfl fun Γ hΓ => ?_
  refine W.run TOK 118 hΓ 1000 ?_
  conv => whnf
  refine ⟨?_, ?_⟩
  repeat' first
    | assumption
    | exact Bool.noConfusion hb
    | exact absurd hb (by decide)
    | (exfalso; omega)
    | (exfalso; simp at hb; done)
    | (refine W.branch rfl (fun hb => ?_) (fun hb => ?_) <;> ((try simp only [decide_eq_true_eq, decide_eq_false_iff_not, Bool.not_eq_true', Bool.not_eq_false', Int.not_lt, Int.not_le, cond_true, cond_false, reduceCtorEq, Int.toNat_natCast, Int.reduceToNat, addI] at hb); (try replace hb := of_decide_eq_true hb); (try replace hb := of_decide_eq_false hb)))
    | (refine D.branch rfl (fun hb => ?_) (fun hb => ?_) <;> ((try simp only [decide_eq_true_eq, decide_eq_false_iff_not, Bool.not_eq_true', Bool.not_eq_false', Int.not_lt, Int.not_le, cond_true, cond_false, reduceCtorEq, Int.toNat_natCast, Int.reduceToNat, addI] at hb); (try replace hb := of_decide_eq_true hb); (try replace hb := of_decide_eq_false hb)))
    | (refine W.go TOK 118 hΓ 1000 rfl ?_; (conv => whnf); refine ⟨?_, ?_⟩)
    | (refine D.go TOK 118 hΓ 1000 rfl ?_; (conv => whnf); refine ⟨?_, ?_⟩)
    | (refine W.drawn rfl rfl ?_; refine D.run TOK 118 hΓ 1000 ?_; (conv => whnf); refine ⟨?_, ?_⟩)
  all_goals (repeat' apply And.intro)
  all_goals try (first
    | exact trivial
    | exact rfl
    | exact fun _ _ => A.sim.refl _
    | exact A.sim.refl _
    | exact Nat.le_refl _
    | omega
    | exact fun _ _ => trivial
    | exact fun i _ => shift_sim _ _ i
    | exact fun _ h => absurd h (Nat.not_lt_zero _)
    | exact fun i _ => isInt_byteAt _ i
    | (simp only [allP, List.nil_append, List.append_nil, List.cons_append, List.append_eq, and_true, true_and, inr_i64, inr_u8, inr_u64, min_i64, max_i64, min_u64, max_u64, min_u8, max_u8, A.purePL, A.pureP, A.sureP, A.surePL, Int.toNat_natCast, Int.reduceToNat, addI, cHi, cLo, hiN, loN, subO, addO, hasIdx, cond_true, cond_false]; first | done | omega | ((repeat' apply And.intro) <;> first | exact trivial | rfl | omega | decide))
    )
  refine W.seeA ([(17, .int .i64 (min d.f0.ps.length 64 : Nat))]) ([]) [] ?_
  (conv => whnf); refine ⟨?_, ?_⟩; focus ((conv => whnf); refine ⟨rfl, rfl, rfl, rfl, rfl, rfl, ?_, ?_⟩; iterate 2 (focus ((repeat' apply And.intro) <;> first | exact trivial | (intro i _; rw [Nat.zero_add]; exact A.sim.refl _) | with_reducible exact rfl | exact fun _ _ => A.sim.refl _ | exact A.sim.refl _ | exact rfl | exact Nat.le_refl _ | omega | exact fun i _ => shift_sim _ _ i | exact fun _ _ => trivial | exact fun _ h => absurd h (Nat.not_lt_zero _) | exact min64 _)))
  refine W.loopA (Nat) (fun i => i ≤ min d.f0.ps.length 64) (fun i => 64 - i) (fun i => [(6, .int .i64 (DK.lastB m i)), (18, .int .i64 i)]) (fun _ => []) [] (0) (Nat.zero_le _) ?_
  (conv => whnf); refine ⟨?_, ?_⟩; focus ((conv => whnf); refine ⟨rfl, rfl, rfl, rfl, rfl, rfl, ?_, ?_⟩; iterate 2 (focus ((repeat' apply And.intro) <;> first | exact trivial | (intro i _; rw [Nat.zero_add]; exact A.sim.refl _) | with_reducible exact rfl | exact fun _ _ => A.sim.refl _ | exact A.sim.refl _ | exact rfl | exact Nat.le_refl _ | omega | exact fun i _ => shift_sim _ _ i | exact fun _ _ => trivial | exact fun _ h => absurd h (Nat.not_lt_zero _))))
  rintro i hi ih
  have hlast := DK.lastB_le m i
  have hm0 := mask_bit m i hm
  by_cases hi2 : i < min d.f0.ps.length 64
  · by_cases hbit : m.testBit i = true
    · rw [if_pos hbit] at hm0
      have e : DK.lastB m (i + 1) = i := by show (if m.testBit i = true then (i : Int) else DK.lastB m i) = i; rw [if_pos hbit]
      repeat' first
        | assumption
        | exact Bool.noConfusion hb
        | exact absurd hb (by decide)
        | (exfalso; omega)
        | (exfalso; simp at hb; done)
        | exact absurd (hm0.symm.trans hb) (by decide)
        | exact absurd hm0 hb
        | exact absurd hb hm1
        | (exfalso; revert hb; rw [hm0]; decide)
        | (refine W.toA (ih (i + 1) ?_ ?_) ?_; rotate_left 2; (conv => whnf); refine ⟨rfl, rfl, rfl, rfl, rfl, rfl, ?_, ?_⟩; iterate 2 (focus ((repeat' apply And.intro) <;> first | exact trivial | (intro i _; rw [Nat.zero_add]; exact A.sim.refl _) | with_reducible exact rfl | exact fun _ _ => A.sim.refl _ | exact A.sim.refl _ | exact rfl | exact Nat.le_refl _ | omega | exact fun i _ => shift_sim _ _ i | exact fun _ _ => trivial | exact fun _ h => absurd h (Nat.not_lt_zero _) | exact e.symm | exact e)))
        | (refine W.branch rfl (fun hb => ?_) (fun hb => ?_) <;> ((try simp only [decide_eq_true_eq, decide_eq_false_iff_not, Bool.not_eq_true', Bool.not_eq_false', Int.not_lt, Int.not_le, cond_true, cond_false, reduceCtorEq, Int.toNat_natCast, Int.reduceToNat, addI] at hb); (try replace hb := of_decide_eq_true hb); (try replace hb := of_decide_eq_false hb)))
        | (refine D.branch rfl (fun hb => ?_) (fun hb => ?_) <;> ((try simp only [decide_eq_true_eq, decide_eq_false_iff_not, Bool.not_eq_true', Bool.not_eq_false', Int.not_lt, Int.not_le, cond_true, cond_false, reduceCtorEq, Int.toNat_natCast, Int.reduceToNat, addI] at hb); (try replace hb := of_decide_eq_true hb); (try replace hb := of_decide_eq_false hb)))
        | (refine W.go TOK 118 hΓ 1000 rfl ?_; (conv => whnf); refine ⟨?_, ?_⟩)
        | (refine D.go TOK 118 hΓ 1000 rfl ?_; (conv => whnf); refine ⟨?_, ?_⟩)
        | (refine W.drawn rfl rfl ?_; refine D.run TOK 118 hΓ 1000 ?_; (conv => whnf); refine ⟨?_, ?_⟩)
      all_goals (repeat' apply And.intro)
      all_goals try (first
        | exact trivial
        | exact rfl
        | exact fun _ _ => A.sim.refl _
        | exact A.sim.refl _
        | exact Nat.le_refl _
        | omega
        | exact fun _ _ => trivial
        | exact fun i _ => shift_sim _ _ i
        | exact fun _ h => absurd h (Nat.not_lt_zero _)
        | exact fun i _ => isInt_byteAt _ i
        | (simp only [allP, List.nil_append, List.append_nil, List.cons_append, List.append_eq, and_true, true_and, inr_i64, inr_u8, inr_u64, min_i64, max_i64, min_u64, max_u64, min_u8, max_u8, A.purePL, A.pureP, A.sureP, A.surePL, Int.toNat_natCast, Int.reduceToNat, addI, cHi, cLo, hiN, loN, subO, addO, hasIdx, cond_true, cond_false]; first | done | omega | ((repeat' apply And.intro) <;> first | exact trivial | rfl | omega | decide))
        )
    · rw [if_neg hbit] at hm0
      have e : DK.lastB m (i + 1) = DK.lastB m i := by show (if m.testBit i = true then (i : Int) else DK.lastB m i) = _; rw [if_neg hbit]
      repeat' first
        | assumption
        | exact Bool.noConfusion hb
        | exact absurd hb (by decide)
        | (exfalso; omega)
        | (exfalso; simp at hb; done)
        | exact absurd (hm0.symm.trans hb) (by decide)
        | exact absurd hm0 hb
        | exact absurd hb hm1
        | (exfalso; revert hb; rw [hm0]; decide)
        | (refine W.toA (ih (i + 1) ?_ ?_) ?_; rotate_left 2; (conv => whnf); refine ⟨rfl, rfl, rfl, rfl, rfl, rfl, ?_, ?_⟩; iterate 2 (focus ((repeat' apply And.intro) <;> first | exact trivial | (intro i _; rw [Nat.zero_add]; exact A.sim.refl _) | with_reducible exact rfl | exact fun _ _ => A.sim.refl _ | exact A.sim.refl _ | exact rfl | exact Nat.le_refl _ | omega | exact fun i _ => shift_sim _ _ i | exact fun _ _ => trivial | exact fun _ h => absurd h (Nat.not_lt_zero _) | exact e.symm | exact e)))
        | (refine W.branch rfl (fun hb => ?_) (fun hb => ?_) <;> ((try simp only [decide_eq_true_eq, decide_eq_false_iff_not, Bool.not_eq_true', Bool.not_eq_false', Int.not_lt, Int.not_le, cond_true, cond_false, reduceCtorEq, Int.toNat_natCast, Int.reduceToNat, addI] at hb); (try replace hb := of_decide_eq_true hb); (try replace hb := of_decide_eq_false hb)))
        | (refine D.branch rfl (fun hb => ?_) (fun hb => ?_) <;> ((try simp only [decide_eq_true_eq, decide_eq_false_iff_not, Bool.not_eq_true', Bool.not_eq_false', Int.not_lt, Int.not_le, cond_true, cond_false, reduceCtorEq, Int.toNat_natCast, Int.reduceToNat, addI] at hb); (try replace hb := of_decide_eq_true hb); (try replace hb := of_decide_eq_false hb)))
        | (refine W.go TOK 118 hΓ 1000 rfl ?_; (conv => whnf); refine ⟨?_, ?_⟩)
        | (refine D.go TOK 118 hΓ 1000 rfl ?_; (conv => whnf); refine ⟨?_, ?_⟩)
        | (refine W.drawn rfl rfl ?_; refine D.run TOK 118 hΓ 1000 ?_; (conv => whnf); refine ⟨?_, ?_⟩)
      all_goals (repeat' apply And.intro)
      all_goals try (first
        | exact trivial
        | exact rfl
        | exact fun _ _ => A.sim.refl _
        | exact A.sim.refl _
        | exact Nat.le_refl _
        | omega
        | exact fun _ _ => trivial
        | exact fun i _ => shift_sim _ _ i
        | exact fun _ h => absurd h (Nat.not_lt_zero _)
        | exact fun i _ => isInt_byteAt _ i
        | (simp only [allP, List.nil_append, List.append_nil, List.cons_append, List.append_eq, and_true, true_and, inr_i64, inr_u8, inr_u64, min_i64, max_i64, min_u64, max_u64, min_u8, max_u8, A.purePL, A.pureP, A.sureP, A.surePL, Int.toNat_natCast, Int.reduceToNat, addI, cHi, cLo, hiN, loN, subO, addO, hasIdx, cond_true, cond_false]; first | done | omega | ((repeat' apply And.intro) <;> first | exact trivial | rfl | omega | decide))
        )
  have hie : i = min d.f0.ps.length 64 := by omega
  subst hie
  clear ih hm0
  have hl0 : DK.lastB m (min d.f0.ps.length 64) = DK.lastOf m d.f0 := rfl
  rw [hl0] at hlast ⊢
  obtain ⟨c, hc⟩ : ∃ c : Nat, DK.lastOf m d.f0 = (c : Int) - 1 := ⟨(DK.lastOf m d.f0 + 1).toNat, by omega⟩
  have hcl : c ≤ d.f0.ps.length := by omega
  have hc1 : (DK.lastOf m d.f0 + 1).toNat = c := by omega
  have hcr : DK.crashF m t d.f0 = ⟨d.f0.s ++ DK.lefts m t (DK.lastOf m d.f0) d.f0.ps c, []⟩ := by rw [DK.crashF, hc1]
  rw [hcr, hc]
  repeat' first
    | assumption
    | exact Bool.noConfusion hb
    | exact absurd hb (by decide)
    | (exfalso; omega)
    | (exfalso; simp at hb; done)
    | (refine W.branch rfl (fun hb => ?_) (fun hb => ?_) <;> ((try simp only [decide_eq_true_eq, decide_eq_false_iff_not, Bool.not_eq_true', Bool.not_eq_false', Int.not_lt, Int.not_le, cond_true, cond_false, reduceCtorEq, Int.toNat_natCast, Int.reduceToNat, addI] at hb); (try replace hb := of_decide_eq_true hb); (try replace hb := of_decide_eq_false hb)))
    | (refine D.branch rfl (fun hb => ?_) (fun hb => ?_) <;> ((try simp only [decide_eq_true_eq, decide_eq_false_iff_not, Bool.not_eq_true', Bool.not_eq_false', Int.not_lt, Int.not_le, cond_true, cond_false, reduceCtorEq, Int.toNat_natCast, Int.reduceToNat, addI] at hb); (try replace hb := of_decide_eq_true hb); (try replace hb := of_decide_eq_false hb)))
    | ((first | (refine D.callA (clone_does d.f0.s.length (byteAt d.f0.b) (by omega)) rfl rfl rfl rfl hΓ rfl ?_; (conv => whnf); refine ⟨rfl, rfl, rfl, ?_, ?_, ?_, ?_⟩) | (refine W.callA (clone_does d.f0.s.length (byteAt d.f0.b) (by omega)) rfl rfl rfl rfl hΓ rfl ?_; (conv => whnf); refine ⟨rfl, rfl, ?_, ?_, ?_, ?_⟩)); iterate 3 (focus ((repeat' apply And.intro) <;> first | exact trivial | (intro i _; rw [Nat.zero_add]; exact A.sim.refl _) | with_reducible exact rfl | exact fun _ _ => A.sim.refl _ | exact A.sim.refl _ | exact rfl | exact Nat.le_refl _ | omega | exact fun i _ => shift_sim _ _ i | exact fun _ _ => trivial | exact fun _ h => absurd h (Nat.not_lt_zero _) | (simp only [addO, subO, hiN, loN, addI, Int.toNat_natCast]; omega))); (conv => whnf))
    | (refine W.go TOK 118 hΓ 1000 rfl ?_; (conv => whnf); refine ⟨?_, ?_⟩)
    | (refine D.go TOK 118 hΓ 1000 rfl ?_; (conv => whnf); refine ⟨?_, ?_⟩)
    | (refine W.drawn rfl rfl ?_; refine D.run TOK 118 hΓ 1000 ?_; (conv => whnf); refine ⟨?_, ?_⟩)
  all_goals (repeat' apply And.intro)
  all_goals try (first
    | exact trivial
    | exact rfl
    | exact fun _ _ => A.sim.refl _
    | exact A.sim.refl _
    | exact Nat.le_refl _
    | omega
    | exact fun _ _ => trivial
    | exact fun i _ => shift_sim _ _ i
    | exact fun _ h => absurd h (Nat.not_lt_zero _)
    | exact fun i _ => isInt_byteAt _ i
    | (simp only [allP, List.nil_append, List.append_nil, List.cons_append, List.append_eq, and_true, true_and, inr_i64, inr_u8, inr_u64, min_i64, max_i64, min_u64, max_u64, min_u8, max_u8, A.purePL, A.pureP, A.sureP, A.surePL, Int.toNat_natCast, Int.reduceToNat, addI, cHi, cLo, hiN, loN, subO, addO, hasIdx, cond_true, cond_false]; first | done | omega | ((repeat' apply And.intro) <;> first | exact trivial | rfl | omega | decide))
    )
  refine W.seeA ([(45, .int .i64 (c : Nat)), (44, .own 1 1002 0 c)]) ([]) [] ?_
  (conv => whnf); refine ⟨?_, ?_⟩; focus ((conv => whnf); refine ⟨rfl, rfl, rfl, rfl, rfl, rfl, ?_, ?_⟩; iterate 2 (focus ((repeat' apply And.intro) <;> first | exact trivial | (intro i _; rw [Nat.zero_add]; exact A.sim.refl _) | with_reducible exact rfl | exact fun _ _ => A.sim.refl _ | exact A.sim.refl _ | exact rfl | exact Nat.le_refl _ | omega | exact fun i _ => shift_sim _ _ i | exact fun _ _ => trivial | exact fun _ h => absurd h (Nat.not_lt_zero _) | (simp only [addO, subO, hiN, loN, addI]; omega) | (show ((c : Int) - 1 + 1).toNat = c; omega) | (show (((c : Int) - 1 + 1).toNat : Int) = c; omega))))
  refine W.loopA (Nat) (fun i => i ≤ c) (fun i => c - i) (fun i => [(8, .own 1 700 0 (d.f0.s ++ DK.lefts m t ((c : Int) - 1) d.f0.ps i).length), (46, .int .i64 i)]) (fun i => [(700, some (.arr 1 (d.f0.s ++ DK.lefts m t ((c : Int) - 1) d.f0.ps i).length (byteAt (d.f0.s ++ DK.lefts m t ((c : Int) - 1) d.f0.ps i))))]) [] (0) (Nat.zero_le _) ?_
  (conv => whnf); refine ⟨?_, ?_⟩; focus ((conv => whnf); refine ⟨rfl, rfl, rfl, rfl, rfl, rfl, ?_, ?_⟩; iterate 2 (focus ((repeat' apply And.intro) <;> first | exact trivial | (intro i _; rw [Nat.zero_add]; exact A.sim.refl _) | with_reducible exact rfl | exact fun _ _ => A.sim.refl _ | exact A.sim.refl _ | exact rfl | exact Nat.le_refl _ | omega | exact fun i _ => shift_sim _ _ i | exact fun _ _ => trivial | exact fun _ h => absurd h (Nat.not_lt_zero _) | exact (congrArg List.length (List.append_nil d.f0.s)).symm | exact Nat.le_of_eq (congrArg List.length (List.append_nil d.f0.s)) | exact sure_sim d.f0 m t ((c : Int) - 1))))
  rintro i hi ih
  by_cases hic : i < c
  · have hip : i < d.f0.ps.length := by omega
    have hat := DK.begins_le d.f0 hip
    have hsu := DK.lefts_succ m t ((c : Int) - 1) d.f0.ps i
    have hll := DK.lefts_len m t ((c : Int) - 1) d.f0.ps i (by omega)
    have hfl := DK.flat_le (ps := d.f0.ps) i
    have hbl : d.f0.b.length = d.f0.s.length + d.f0.ps.flatten.length := by rw [DK.F.b, List.length_append]
    have hm0 := mask_bit m i hm
    obtain ⟨p, hp⟩ : ∃ p, p = d.f0.ps.getD i [] := ⟨_, rfl⟩
    rw [← hp] at hat hsu
    have hol : (d.f0.s ++ DK.lefts m t ((c : Int) - 1) d.f0.ps i).length ≤ 1000000000 := by rw [List.length_append]; omega
    by_cases hn : i + 1 < d.f0.ps.length
    · have hpt := DK.part_in d.f0 hn
      have hnx := DK.begins_next d.f0 hn
      have hat2 := DK.begins_le d.f0 hn
      rw [← hp] at hpt hnx
      by_cases hbit : m.testBit i = true
      · rw [if_pos hbit] at hm0
        by_cases ht : (i : Int) = (c : Int) - 1 ∧ 0 ≤ t
        · have hle : DK.left m t ((c : Int) - 1) i p = p.take t.toNat := by unfold DK.left; rw [if_neg (by simp [hbit]), if_pos ht]
          rw [hle] at hsu
          repeat' first
            | assumption
            | exact Bool.noConfusion hb
            | exact absurd hb (by decide)
            | (exfalso; omega)
            | (exfalso; simp at hb; done)
            | exact absurd (hm0.symm.trans hb) (by decide)
            | exact absurd hm0 hb
            | exact absurd hb hm1
            | (exfalso; revert hb; rw [hm0]; decide)
            | (refine W.branch rfl (fun hb => ?_) (fun hb => ?_) <;> ((try simp only [decide_eq_true_eq, decide_eq_false_iff_not, Bool.not_eq_true', Bool.not_eq_false', Int.not_lt, Int.not_le, cond_true, cond_false, reduceCtorEq, Int.toNat_natCast, Int.reduceToNat, addI] at hb); (try replace hb := of_decide_eq_true hb); (try replace hb := of_decide_eq_false hb)))
            | (refine D.branch rfl (fun hb => ?_) (fun hb => ?_) <;> ((try simp only [decide_eq_true_eq, decide_eq_false_iff_not, Bool.not_eq_true', Bool.not_eq_false', Int.not_lt, Int.not_le, cond_true, cond_false, reduceCtorEq, Int.toNat_natCast, Int.reduceToNat, addI] at hb); (try replace hb := of_decide_eq_true hb); (try replace hb := of_decide_eq_false hb)))
            | (refine W.go Ts14OK 118 hΓ 1000 rfl ?_; (conv => whnf); refine ⟨?_, ?_⟩)
            | (refine D.go Ts14OK 118 hΓ 1000 rfl ?_; (conv => whnf); refine ⟨?_, ?_⟩)
            | (refine W.drawn rfl rfl ?_; refine D.run Ts14OK 118 hΓ 1000 ?_; (conv => whnf); refine ⟨?_, ?_⟩)
          all_goals (repeat' apply And.intro)
          all_goals try (first
            | exact trivial
            | exact rfl
            | exact fun _ _ => A.sim.refl _
            | exact A.sim.refl _
            | exact Nat.le_refl _
            | omega
            | exact fun _ _ => trivial
            | exact fun i _ => shift_sim _ _ i
            | exact fun _ h => absurd h (Nat.not_lt_zero _)
            | exact fun i _ => isInt_byteAt _ i
            | (simp only [allP, List.nil_append, List.append_nil, List.cons_append, List.append_eq, and_true, true_and, inr_i64, inr_u8, inr_u64, min_i64, max_i64, min_u64, max_u64, min_u8, max_u8, A.purePL, A.pureP, A.sureP, A.surePL, Int.toNat_natCast, Int.reduceToNat, addI, cHi, cLo, hiN, loN, subO, addO, hasIdx, cond_true, cond_false]; first | done | omega | ((repeat' apply And.intro) <;> first | exact trivial | rfl | omega | decide))
            | (show ((d.f0.begins.getD (i + 1) 0 : Nat) : Int) ≤ ((d.f0.b.length : Nat) : Int); omega)
            | (show ((d.f0.begins.getD i 0 : Nat) : Int) ≤ ((d.f0.begins.getD (i + 1) 0 : Nat) : Int); omega)
            | (show ((d.f0.begins.getD i 0 : Nat) : Int) ≤ ((d.f0.b.length : Nat) : Int); omega)
            )
          refine W.seeA ([(11, .own 1 1001 (d.f0.begins.getD i 0) p.length)]) ([]) [] ?_
          (conv => whnf); refine ⟨?_, ?_⟩; focus ((conv => whnf); refine ⟨rfl, rfl, rfl, rfl, rfl, rfl, ?_, ?_⟩; iterate 2 (focus ((repeat' apply And.intro) <;> first | exact trivial | (intro i _; rw [Nat.zero_add]; exact A.sim.refl _) | with_reducible exact rfl | exact fun _ _ => A.sim.refl _ | exact A.sim.refl _ | exact rfl | exact Nat.le_refl _ | omega | exact fun i _ => shift_sim _ _ i | exact fun _ _ => trivial | exact fun _ h => absurd h (Nat.not_lt_zero _) | (show d.f0.begins.getD (i + 1) 0 - d.f0.begins.getD i 0 = p.length; omega) | (show d.f0.b.length - d.f0.begins.getD i 0 = p.length; omega))))
          have hpd : (d.f0.b.drop (d.f0.begins.getD i 0)).take p.length = p := by
            rw [hnx, List.drop_take, Nat.add_sub_cancel_left] at hpt
            exact hpt
          have hmt : (if (p.length : Int) < t then (p.length : Int) else t).toNat = (p.take t.toNat).length := by rw [List.length_take]; split <;> omega
          have hpd2 : (d.f0.b.drop (d.f0.begins.getD i 0)).take (p.take t.toNat).length = p.take t.toNat := by rw [List.length_take, ← List.take_take, hpd]
          have hfin : (d.f0.s ++ DK.lefts m t ((c : Int) - 1) d.f0.ps (i + 1)) = (d.f0.s ++ DK.lefts m t ((c : Int) - 1) d.f0.ps i) ++ p.take t.toNat := by rw [hsu, List.append_assoc]
          have hlt : (p.take t.toNat).length ≤ p.length := by rw [List.length_take]; omega
          repeat' first
            | assumption
            | exact Bool.noConfusion hb
            | exact absurd hb (by decide)
            | (exfalso; omega)
            | (exfalso; simp at hb; done)
            | exact absurd (hm0.symm.trans hb) (by decide)
            | exact absurd hm0 hb
            | exact absurd hb hm1
            | (exfalso; revert hb; rw [hm0]; decide)
            | (refine W.branch rfl (fun hb => ?_) (fun hb => ?_) <;> ((try simp only [decide_eq_true_eq, decide_eq_false_iff_not, Bool.not_eq_true', Bool.not_eq_false', Int.not_lt, Int.not_le, cond_true, cond_false, reduceCtorEq, Int.toNat_natCast, Int.reduceToNat, addI] at hb); (try replace hb := of_decide_eq_true hb); (try replace hb := of_decide_eq_false hb)))
            | (refine D.branch rfl (fun hb => ?_) (fun hb => ?_) <;> ((try simp only [decide_eq_true_eq, decide_eq_false_iff_not, Bool.not_eq_true', Bool.not_eq_false', Int.not_lt, Int.not_le, cond_true, cond_false, reduceCtorEq, Int.toNat_natCast, Int.reduceToNat, addI] at hb); (try replace hb := of_decide_eq_true hb); (try replace hb := of_decide_eq_false hb)))
            | (refine W.go Ts18OK 118 hΓ 1000 rfl ?_; (conv => whnf); refine ⟨?_, ?_⟩)
            | (refine D.go Ts18OK 118 hΓ 1000 rfl ?_; (conv => whnf); refine ⟨?_, ?_⟩)
            | (refine W.drawn rfl rfl ?_; refine D.run Ts18OK 118 hΓ 1000 ?_; (conv => whnf); refine ⟨?_, ?_⟩)
          all_goals (repeat' apply And.intro)
          all_goals try (first
            | exact trivial
            | exact rfl
            | exact fun _ _ => A.sim.refl _
            | exact A.sim.refl _
            | exact Nat.le_refl _
            | omega
            | exact fun _ _ => trivial
            | exact fun i _ => shift_sim _ _ i
            | exact fun _ h => absurd h (Nat.not_lt_zero _)
            | exact fun i _ => isInt_byteAt _ i
            | (split <;> omega)
            | (simp only [allP, List.nil_append, List.append_nil, List.cons_append, List.append_eq, and_true, true_and, inr_i64, inr_u8, inr_u64, min_i64, max_i64, min_u64, max_u64, min_u8, max_u8, A.purePL, A.pureP, A.sureP, A.surePL, Int.toNat_natCast, Int.reduceToNat, addI, cHi, cLo, hiN, loN, subO, addO, hasIdx, cond_true, cond_false]; first | done | omega | ((repeat' apply And.intro) <;> first | exact trivial | rfl | omega | decide))
            )
          refine W.seeA ([(11, .own 1 1001 (d.f0.begins.getD i 0) (p.take t.toNat).length)]) ([]) [] ?_
          (conv => whnf); refine ⟨?_, ?_⟩; focus ((conv => whnf); refine ⟨rfl, rfl, rfl, rfl, rfl, rfl, ?_, ?_⟩; iterate 2 (focus ((repeat' apply And.intro) <;> first | exact trivial | (intro i _; rw [Nat.zero_add]; exact A.sim.refl _) | with_reducible exact rfl | exact fun _ _ => A.sim.refl _ | exact A.sim.refl _ | exact rfl | exact Nat.le_refl _ | omega | exact fun i _ => shift_sim _ _ i | exact fun _ _ => trivial | exact fun _ h => absurd h (Nat.not_lt_zero _) | exact hmt)))
          have hfl2 : (d.f0.s ++ DK.lefts m t ((c : Int) - 1) d.f0.ps (i + 1)).length = (d.f0.s ++ DK.lefts m t ((c : Int) - 1) d.f0.ps i).length + (p.take t.toNat).length := by rw [hfin, List.length_append]
          have hsim : ∀ j, j < (d.f0.s ++ DK.lefts m t ((c : Int) - 1) d.f0.ps (i + 1)).length → (catF (d.f0.s ++ DK.lefts m t ((c : Int) - 1) d.f0.ps i).length (byteAt (d.f0.s ++ DK.lefts m t ((c : Int) - 1) d.f0.ps i)) (shiftF (d.f0.begins.getD i 0) (byteAt d.f0.b)) j).sim (byteAt (d.f0.s ++ DK.lefts m t ((c : Int) - 1) d.f0.ps (i + 1)) j) := by
            rw [hfin]
            exact cat_part rfl hpd2 (by rw [List.length_append]; exact Nat.le_refl _)
          repeat' first
            | assumption
            | exact Bool.noConfusion hb
            | exact absurd hb (by decide)
            | (exfalso; omega)
            | (exfalso; simp at hb; done)
            | exact absurd (hm0.symm.trans hb) (by decide)
            | exact absurd hm0 hb
            | exact absurd hb hm1
            | (exfalso; revert hb; rw [hm0]; decide)
            | (refine W.toA (ih (i + 1) ?_ ?_) ?_; rotate_left 2; (conv => whnf); refine ⟨rfl, rfl, rfl, rfl, rfl, rfl, ?_, ?_⟩; iterate 2 (focus ((repeat' apply And.intro) <;> first | exact trivial | (intro i _; rw [Nat.zero_add]; exact A.sim.refl _) | with_reducible exact rfl | exact fun _ _ => A.sim.refl _ | exact A.sim.refl _ | exact rfl | exact Nat.le_refl _ | omega | exact fun i _ => shift_sim _ _ i | exact fun _ _ => trivial | exact fun _ h => absurd h (Nat.not_lt_zero _) | exact hfl2 | exact hfl2.symm | exact Nat.le_of_eq hfl2 | exact hsim)))
            | (refine W.branch rfl (fun hb => ?_) (fun hb => ?_) <;> ((try simp only [decide_eq_true_eq, decide_eq_false_iff_not, Bool.not_eq_true', Bool.not_eq_false', Int.not_lt, Int.not_le, cond_true, cond_false, reduceCtorEq, Int.toNat_natCast, Int.reduceToNat, addI] at hb); (try replace hb := of_decide_eq_true hb); (try replace hb := of_decide_eq_false hb)))
            | (refine D.branch rfl (fun hb => ?_) (fun hb => ?_) <;> ((try simp only [decide_eq_true_eq, decide_eq_false_iff_not, Bool.not_eq_true', Bool.not_eq_false', Int.not_lt, Int.not_le, cond_true, cond_false, reduceCtorEq, Int.toNat_natCast, Int.reduceToNat, addI] at hb); (try replace hb := of_decide_eq_true hb); (try replace hb := of_decide_eq_false hb)))
            | (refine W.go TOK 118 hΓ 1000 rfl ?_; (conv => whnf); refine ⟨?_, ?_⟩)
            | (refine D.go TOK 118 hΓ 1000 rfl ?_; (conv => whnf); refine ⟨?_, ?_⟩)
            | (refine W.drawn rfl rfl ?_; refine D.run TOK 118 hΓ 1000 ?_; (conv => whnf); refine ⟨?_, ?_⟩)
          all_goals (repeat' apply And.intro)
          all_goals try (first
            | exact trivial
            | exact rfl
            | exact fun _ _ => A.sim.refl _
            | exact A.sim.refl _
            | exact Nat.le_refl _
            | omega
            | exact fun _ _ => trivial
            | exact fun i _ => shift_sim _ _ i
            | exact fun _ h => absurd h (Nat.not_lt_zero _)
            | exact fun i _ => isInt_byteAt _ i
            | (simp only [allP, List.nil_append, List.append_nil, List.cons_append, List.append_eq, and_true, true_and, inr_i64, inr_u8, inr_u64, min_i64, max_i64, min_u64, max_u64, min_u8, max_u8, A.purePL, A.pureP, A.sureP, A.surePL, Int.toNat_natCast, Int.reduceToNat, addI, cHi, cLo, hiN, loN, subO, addO, hasIdx, cond_true, cond_false]; first | done | omega | ((repeat' apply And.intro) <;> first | exact trivial | rfl | omega | decide))
            | (show (p.length : Int) * 1 ≤ 17592186044416; omega)
            | (rw [Int.toNat_natCast]; omega)
            )
        · have hle : DK.left m t ((c : Int) - 1) i p = p := by unfold DK.left; rw [if_neg (by simp [hbit]), if_neg ht]
          rw [hle] at hsu
          repeat' first
            | assumption
            | exact Bool.noConfusion hb
            | exact absurd hb (by decide)
            | (exfalso; omega)
            | (exfalso; simp at hb; done)
            | exact absurd (hm0.symm.trans hb) (by decide)
            | exact absurd hm0 hb
            | exact absurd hb hm1
            | (exfalso; revert hb; rw [hm0]; decide)
            | (refine W.branch rfl (fun hb => ?_) (fun hb => ?_) <;> ((try simp only [decide_eq_true_eq, decide_eq_false_iff_not, Bool.not_eq_true', Bool.not_eq_false', Int.not_lt, Int.not_le, cond_true, cond_false, reduceCtorEq, Int.toNat_natCast, Int.reduceToNat, addI] at hb); (try replace hb := of_decide_eq_true hb); (try replace hb := of_decide_eq_false hb)))
            | (refine D.branch rfl (fun hb => ?_) (fun hb => ?_) <;> ((try simp only [decide_eq_true_eq, decide_eq_false_iff_not, Bool.not_eq_true', Bool.not_eq_false', Int.not_lt, Int.not_le, cond_true, cond_false, reduceCtorEq, Int.toNat_natCast, Int.reduceToNat, addI] at hb); (try replace hb := of_decide_eq_true hb); (try replace hb := of_decide_eq_false hb)))
            | (refine W.go Ts14OK 118 hΓ 1000 rfl ?_; (conv => whnf); refine ⟨?_, ?_⟩)
            | (refine D.go Ts14OK 118 hΓ 1000 rfl ?_; (conv => whnf); refine ⟨?_, ?_⟩)
            | (refine W.drawn rfl rfl ?_; refine D.run Ts14OK 118 hΓ 1000 ?_; (conv => whnf); refine ⟨?_, ?_⟩)
          all_goals (repeat' apply And.intro)
          all_goals try (first
            | exact trivial
            | exact rfl
            | exact fun _ _ => A.sim.refl _
            | exact A.sim.refl _
            | exact Nat.le_refl _
            | omega
            | exact fun _ _ => trivial
            | exact fun i _ => shift_sim _ _ i
            | exact fun _ h => absurd h (Nat.not_lt_zero _)
            | exact fun i _ => isInt_byteAt _ i
            | (simp only [allP, List.nil_append, List.append_nil, List.cons_append, List.append_eq, and_true, true_and, inr_i64, inr_u8, inr_u64, min_i64, max_i64, min_u64, max_u64, min_u8, max_u8, A.purePL, A.pureP, A.sureP, A.surePL, Int.toNat_natCast, Int.reduceToNat, addI, cHi, cLo, hiN, loN, subO, addO, hasIdx, cond_true, cond_false]; first | done | omega | ((repeat' apply And.intro) <;> first | exact trivial | rfl | omega | decide))
            | (show ((d.f0.begins.getD (i + 1) 0 : Nat) : Int) ≤ ((d.f0.b.length : Nat) : Int); omega)
            | (show ((d.f0.begins.getD i 0 : Nat) : Int) ≤ ((d.f0.begins.getD (i + 1) 0 : Nat) : Int); omega)
            | (show ((d.f0.begins.getD i 0 : Nat) : Int) ≤ ((d.f0.b.length : Nat) : Int); omega)
            )
          refine W.seeA ([(11, .own 1 1001 (d.f0.begins.getD i 0) p.length)]) ([]) [] ?_
          (conv => whnf); refine ⟨?_, ?_⟩; focus ((conv => whnf); refine ⟨rfl, rfl, rfl, rfl, rfl, rfl, ?_, ?_⟩; iterate 2 (focus ((repeat' apply And.intro) <;> first | exact trivial | (intro i _; rw [Nat.zero_add]; exact A.sim.refl _) | with_reducible exact rfl | exact fun _ _ => A.sim.refl _ | exact A.sim.refl _ | exact rfl | exact Nat.le_refl _ | omega | exact fun i _ => shift_sim _ _ i | exact fun _ _ => trivial | exact fun _ h => absurd h (Nat.not_lt_zero _) | (show d.f0.begins.getD (i + 1) 0 - d.f0.begins.getD i 0 = p.length; omega) | (show d.f0.b.length - d.f0.begins.getD i 0 = p.length; omega))))
          have hpd : (d.f0.b.drop (d.f0.begins.getD i 0)).take p.length = p := by
            rw [hnx, List.drop_take, Nat.add_sub_cancel_left] at hpt
            exact hpt
          have hfin : (d.f0.s ++ DK.lefts m t ((c : Int) - 1) d.f0.ps (i + 1)) = (d.f0.s ++ DK.lefts m t ((c : Int) - 1) d.f0.ps i) ++ p := by rw [hsu, List.append_assoc]
          have hfl2 : (d.f0.s ++ DK.lefts m t ((c : Int) - 1) d.f0.ps (i + 1)).length = (d.f0.s ++ DK.lefts m t ((c : Int) - 1) d.f0.ps i).length + p.length := by rw [hfin, List.length_append]
          have hsim : ∀ j, j < (d.f0.s ++ DK.lefts m t ((c : Int) - 1) d.f0.ps (i + 1)).length → (catF (d.f0.s ++ DK.lefts m t ((c : Int) - 1) d.f0.ps i).length (byteAt (d.f0.s ++ DK.lefts m t ((c : Int) - 1) d.f0.ps i)) (shiftF (d.f0.begins.getD i 0) (byteAt d.f0.b)) j).sim (byteAt (d.f0.s ++ DK.lefts m t ((c : Int) - 1) d.f0.ps (i + 1)) j) := by
            rw [hfin]
            exact cat_part rfl hpd (by rw [List.length_append]; exact Nat.le_refl _)
          repeat' first
            | assumption
            | exact Bool.noConfusion hb
            | exact absurd hb (by decide)
            | (exfalso; omega)
            | (exfalso; simp at hb; done)
            | exact absurd (hm0.symm.trans hb) (by decide)
            | exact absurd hm0 hb
            | exact absurd hb hm1
            | (exfalso; revert hb; rw [hm0]; decide)
            | (refine W.toA (ih (i + 1) ?_ ?_) ?_; rotate_left 2; (conv => whnf); refine ⟨rfl, rfl, rfl, rfl, rfl, rfl, ?_, ?_⟩; iterate 2 (focus ((repeat' apply And.intro) <;> first | exact trivial | (intro i _; rw [Nat.zero_add]; exact A.sim.refl _) | with_reducible exact rfl | exact fun _ _ => A.sim.refl _ | exact A.sim.refl _ | exact rfl | exact Nat.le_refl _ | omega | exact fun i _ => shift_sim _ _ i | exact fun _ _ => trivial | exact fun _ h => absurd h (Nat.not_lt_zero _) | exact hfl2 | exact hfl2.symm | exact Nat.le_of_eq hfl2 | exact hsim)))
            | (refine W.branch rfl (fun hb => ?_) (fun hb => ?_) <;> ((try simp only [decide_eq_true_eq, decide_eq_false_iff_not, Bool.not_eq_true', Bool.not_eq_false', Int.not_lt, Int.not_le, cond_true, cond_false, reduceCtorEq, Int.toNat_natCast, Int.reduceToNat, addI] at hb); (try replace hb := of_decide_eq_true hb); (try replace hb := of_decide_eq_false hb)))
            | (refine D.branch rfl (fun hb => ?_) (fun hb => ?_) <;> ((try simp only [decide_eq_true_eq, decide_eq_false_iff_not, Bool.not_eq_true', Bool.not_eq_false', Int.not_lt, Int.not_le, cond_true, cond_false, reduceCtorEq, Int.toNat_natCast, Int.reduceToNat, addI] at hb); (try replace hb := of_decide_eq_true hb); (try replace hb := of_decide_eq_false hb)))
            | (refine W.go TOK 118 hΓ 1000 rfl ?_; (conv => whnf); refine ⟨?_, ?_⟩)
            | (refine D.go TOK 118 hΓ 1000 rfl ?_; (conv => whnf); refine ⟨?_, ?_⟩)
            | (refine W.drawn rfl rfl ?_; refine D.run TOK 118 hΓ 1000 ?_; (conv => whnf); refine ⟨?_, ?_⟩)
          all_goals (repeat' apply And.intro)
          all_goals try (first
            | exact trivial
            | exact rfl
            | exact fun _ _ => A.sim.refl _
            | exact A.sim.refl _
            | exact Nat.le_refl _
            | omega
            | exact fun _ _ => trivial
            | exact fun i _ => shift_sim _ _ i
            | exact fun _ h => absurd h (Nat.not_lt_zero _)
            | exact fun i _ => isInt_byteAt _ i
            | (simp only [allP, List.nil_append, List.append_nil, List.cons_append, List.append_eq, and_true, true_and, inr_i64, inr_u8, inr_u64, min_i64, max_i64, min_u64, max_u64, min_u8, max_u8, A.purePL, A.pureP, A.sureP, A.surePL, Int.toNat_natCast, Int.reduceToNat, addI, cHi, cLo, hiN, loN, subO, addO, hasIdx, cond_true, cond_false]; first | done | omega | ((repeat' apply And.intro) <;> first | exact trivial | rfl | omega | decide))
            | (show (p.length : Int) * 1 ≤ 17592186044416; omega)
            | (rw [Int.toNat_natCast]; omega)
            )
      · rw [if_neg hbit] at hm0
        have hle : DK.left m t ((c : Int) - 1) i p = List.replicate p.length 0 := by unfold DK.left; rw [if_pos (by simpa using hbit)]
        rw [hle] at hsu
        repeat' first
          | assumption
          | exact Bool.noConfusion hb
          | exact absurd hb (by decide)
          | (exfalso; omega)
          | (exfalso; simp at hb; done)
          | exact absurd (hm0.symm.trans hb) (by decide)
          | exact absurd hm0 hb
          | exact absurd hb hm1
          | (exfalso; revert hb; rw [hm0]; decide)
          | (refine W.branch rfl (fun hb => ?_) (fun hb => ?_) <;> ((try simp only [decide_eq_true_eq, decide_eq_false_iff_not, Bool.not_eq_true', Bool.not_eq_false', Int.not_lt, Int.not_le, cond_true, cond_false, reduceCtorEq, Int.toNat_natCast, Int.reduceToNat, addI] at hb); (try replace hb := of_decide_eq_true hb); (try replace hb := of_decide_eq_false hb)))
          | (refine D.branch rfl (fun hb => ?_) (fun hb => ?_) <;> ((try simp only [decide_eq_true_eq, decide_eq_false_iff_not, Bool.not_eq_true', Bool.not_eq_false', Int.not_lt, Int.not_le, cond_true, cond_false, reduceCtorEq, Int.toNat_natCast, Int.reduceToNat, addI] at hb); (try replace hb := of_decide_eq_true hb); (try replace hb := of_decide_eq_false hb)))
          | (refine W.go Ts14OK 118 hΓ 1000 rfl ?_; (conv => whnf); refine ⟨?_, ?_⟩)
          | (refine D.go Ts14OK 118 hΓ 1000 rfl ?_; (conv => whnf); refine ⟨?_, ?_⟩)
          | (refine W.drawn rfl rfl ?_; refine D.run Ts14OK 118 hΓ 1000 ?_; (conv => whnf); refine ⟨?_, ?_⟩)
        all_goals (repeat' apply And.intro)
        all_goals try (first
          | exact trivial
          | exact rfl
          | exact fun _ _ => A.sim.refl _
          | exact A.sim.refl _
          | exact Nat.le_refl _
          | omega
          | exact fun _ _ => trivial
          | exact fun i _ => shift_sim _ _ i
          | exact fun _ h => absurd h (Nat.not_lt_zero _)
          | exact fun i _ => isInt_byteAt _ i
          | (simp only [allP, List.nil_append, List.append_nil, List.cons_append, List.append_eq, and_true, true_and, inr_i64, inr_u8, inr_u64, min_i64, max_i64, min_u64, max_u64, min_u8, max_u8, A.purePL, A.pureP, A.sureP, A.surePL, Int.toNat_natCast, Int.reduceToNat, addI, cHi, cLo, hiN, loN, subO, addO, hasIdx, cond_true, cond_false]; first | done | omega | ((repeat' apply And.intro) <;> first | exact trivial | rfl | omega | decide))
          | (show ((d.f0.begins.getD (i + 1) 0 : Nat) : Int) ≤ ((d.f0.b.length : Nat) : Int); omega)
          | (show ((d.f0.begins.getD i 0 : Nat) : Int) ≤ ((d.f0.begins.getD (i + 1) 0 : Nat) : Int); omega)
          | (show ((d.f0.begins.getD i 0 : Nat) : Int) ≤ ((d.f0.b.length : Nat) : Int); omega)
          )
        refine W.seeA ([(11, .own 1 1001 (d.f0.begins.getD i 0) p.length)]) ([]) [] ?_
        (conv => whnf); refine ⟨?_, ?_⟩; focus ((conv => whnf); refine ⟨rfl, rfl, rfl, rfl, rfl, rfl, ?_, ?_⟩; iterate 2 (focus ((repeat' apply And.intro) <;> first | exact trivial | (intro i _; rw [Nat.zero_add]; exact A.sim.refl _) | with_reducible exact rfl | exact fun _ _ => A.sim.refl _ | exact A.sim.refl _ | exact rfl | exact Nat.le_refl _ | omega | exact fun i _ => shift_sim _ _ i | exact fun _ _ => trivial | exact fun _ h => absurd h (Nat.not_lt_zero _) | (show d.f0.begins.getD (i + 1) 0 - d.f0.begins.getD i 0 = p.length; omega) | (show d.f0.b.length - d.f0.begins.getD i 0 = p.length; omega))))
        have hpd : (d.f0.b.drop (d.f0.begins.getD i 0)).take p.length = p := by
          rw [hnx, List.drop_take, Nat.add_sub_cancel_left] at hpt
          exact hpt
        have hfin : (d.f0.s ++ DK.lefts m t ((c : Int) - 1) d.f0.ps (i + 1)) = (d.f0.s ++ DK.lefts m t ((c : Int) - 1) d.f0.ps i) ++ List.replicate p.length 0 := by rw [hsu, List.append_assoc]
        have hfl2 : (d.f0.s ++ DK.lefts m t ((c : Int) - 1) d.f0.ps (i + 1)).length = (d.f0.s ++ DK.lefts m t ((c : Int) - 1) d.f0.ps i).length + p.length := by rw [hfin, List.length_append, List.length_replicate]
        have hsim : ∀ j, j < (d.f0.s ++ DK.lefts m t ((c : Int) - 1) d.f0.ps (i + 1)).length → (catF (d.f0.s ++ DK.lefts m t ((c : Int) - 1) d.f0.ps i).length (byteAt (d.f0.s ++ DK.lefts m t ((c : Int) - 1) d.f0.ps i)) (fun _ => A.int .u8 0) j).sim (byteAt (d.f0.s ++ DK.lefts m t ((c : Int) - 1) d.f0.ps (i + 1)) j) := by
          rw [hfin]
          exact cat_zero rfl (by rw [List.length_append, List.length_replicate]; exact Nat.le_refl _)
        repeat' first
          | assumption
          | exact Bool.noConfusion hb
          | exact absurd hb (by decide)
          | (exfalso; omega)
          | (exfalso; simp at hb; done)
          | exact absurd (hm0.symm.trans hb) (by decide)
          | exact absurd hm0 hb
          | exact absurd hb hm1
          | (exfalso; revert hb; rw [hm0]; decide)
          | (refine W.toA (ih (i + 1) ?_ ?_) ?_; rotate_left 2; (conv => whnf); refine ⟨rfl, rfl, rfl, rfl, rfl, rfl, ?_, ?_⟩; iterate 2 (focus ((repeat' apply And.intro) <;> first | exact trivial | (intro i _; rw [Nat.zero_add]; exact A.sim.refl _) | with_reducible exact rfl | exact fun _ _ => A.sim.refl _ | exact A.sim.refl _ | exact rfl | exact Nat.le_refl _ | omega | exact fun i _ => shift_sim _ _ i | exact fun _ _ => trivial | exact fun _ h => absurd h (Nat.not_lt_zero _) | exact hfl2 | exact hfl2.symm | exact Nat.le_of_eq hfl2 | exact hsim)))
          | (refine W.branch rfl (fun hb => ?_) (fun hb => ?_) <;> ((try simp only [decide_eq_true_eq, decide_eq_false_iff_not, Bool.not_eq_true', Bool.not_eq_false', Int.not_lt, Int.not_le, cond_true, cond_false, reduceCtorEq, Int.toNat_natCast, Int.reduceToNat, addI] at hb); (try replace hb := of_decide_eq_true hb); (try replace hb := of_decide_eq_false hb)))
          | (refine D.branch rfl (fun hb => ?_) (fun hb => ?_) <;> ((try simp only [decide_eq_true_eq, decide_eq_false_iff_not, Bool.not_eq_true', Bool.not_eq_false', Int.not_lt, Int.not_le, cond_true, cond_false, reduceCtorEq, Int.toNat_natCast, Int.reduceToNat, addI] at hb); (try replace hb := of_decide_eq_true hb); (try replace hb := of_decide_eq_false hb)))
          | (refine W.go TOK 118 hΓ 1000 rfl ?_; (conv => whnf); refine ⟨?_, ?_⟩)
          | (refine D.go TOK 118 hΓ 1000 rfl ?_; (conv => whnf); refine ⟨?_, ?_⟩)
          | (refine W.drawn rfl rfl ?_; refine D.run TOK 118 hΓ 1000 ?_; (conv => whnf); refine ⟨?_, ?_⟩)
        all_goals (repeat' apply And.intro)
        all_goals try (first
          | exact trivial
          | exact rfl
          | exact fun _ _ => A.sim.refl _
          | exact A.sim.refl _
          | exact Nat.le_refl _
          | omega
          | exact fun _ _ => trivial
          | exact fun i _ => shift_sim _ _ i
          | exact fun _ h => absurd h (Nat.not_lt_zero _)
          | exact fun i _ => isInt_byteAt _ i
          | (simp only [allP, List.nil_append, List.append_nil, List.cons_append, List.append_eq, and_true, true_and, inr_i64, inr_u8, inr_u64, min_i64, max_i64, min_u64, max_u64, min_u8, max_u8, A.purePL, A.pureP, A.sureP, A.surePL, Int.toNat_natCast, Int.reduceToNat, addI, cHi, cLo, hiN, loN, subO, addO, hasIdx, cond_true, cond_false]; first | done | omega | ((repeat' apply And.intro) <;> first | exact trivial | rfl | omega | decide))
          | (show (p.length : Int) * 1 ≤ 17592186044416; omega)
          | (rw [Int.toNat_natCast]; omega)
          )
    · have hpt := DK.part_last d.f0 (i := i) (by omega)
      have hnx := DK.begins_end d.f0 (i := i) (by omega)
      rw [← hp] at hpt hnx
      by_cases hbit : m.testBit i = true
      · rw [if_pos hbit] at hm0
        by_cases ht : (i : Int) = (c : Int) - 1 ∧ 0 ≤ t
        · have hle : DK.left m t ((c : Int) - 1) i p = p.take t.toNat := by unfold DK.left; rw [if_neg (by simp [hbit]), if_pos ht]
          rw [hle] at hsu
          repeat' first
            | assumption
            | exact Bool.noConfusion hb
            | exact absurd hb (by decide)
            | (exfalso; omega)
            | (exfalso; simp at hb; done)
            | exact absurd (hm0.symm.trans hb) (by decide)
            | exact absurd hm0 hb
            | exact absurd hb hm1
            | (exfalso; revert hb; rw [hm0]; decide)
            | (refine W.branch rfl (fun hb => ?_) (fun hb => ?_) <;> ((try simp only [decide_eq_true_eq, decide_eq_false_iff_not, Bool.not_eq_true', Bool.not_eq_false', Int.not_lt, Int.not_le, cond_true, cond_false, reduceCtorEq, Int.toNat_natCast, Int.reduceToNat, addI] at hb); (try replace hb := of_decide_eq_true hb); (try replace hb := of_decide_eq_false hb)))
            | (refine D.branch rfl (fun hb => ?_) (fun hb => ?_) <;> ((try simp only [decide_eq_true_eq, decide_eq_false_iff_not, Bool.not_eq_true', Bool.not_eq_false', Int.not_lt, Int.not_le, cond_true, cond_false, reduceCtorEq, Int.toNat_natCast, Int.reduceToNat, addI] at hb); (try replace hb := of_decide_eq_true hb); (try replace hb := of_decide_eq_false hb)))
            | (refine W.go Ts14OK 118 hΓ 1000 rfl ?_; (conv => whnf); refine ⟨?_, ?_⟩)
            | (refine D.go Ts14OK 118 hΓ 1000 rfl ?_; (conv => whnf); refine ⟨?_, ?_⟩)
            | (refine W.drawn rfl rfl ?_; refine D.run Ts14OK 118 hΓ 1000 ?_; (conv => whnf); refine ⟨?_, ?_⟩)
          all_goals (repeat' apply And.intro)
          all_goals try (first
            | exact trivial
            | exact rfl
            | exact fun _ _ => A.sim.refl _
            | exact A.sim.refl _
            | exact Nat.le_refl _
            | omega
            | exact fun _ _ => trivial
            | exact fun i _ => shift_sim _ _ i
            | exact fun _ h => absurd h (Nat.not_lt_zero _)
            | exact fun i _ => isInt_byteAt _ i
            | (simp only [allP, List.nil_append, List.append_nil, List.cons_append, List.append_eq, and_true, true_and, inr_i64, inr_u8, inr_u64, min_i64, max_i64, min_u64, max_u64, min_u8, max_u8, A.purePL, A.pureP, A.sureP, A.surePL, Int.toNat_natCast, Int.reduceToNat, addI, cHi, cLo, hiN, loN, subO, addO, hasIdx, cond_true, cond_false]; first | done | omega | ((repeat' apply And.intro) <;> first | exact trivial | rfl | omega | decide))
            | (show ((d.f0.begins.getD (i + 1) 0 : Nat) : Int) ≤ ((d.f0.b.length : Nat) : Int); omega)
            | (show ((d.f0.begins.getD i 0 : Nat) : Int) ≤ ((d.f0.begins.getD (i + 1) 0 : Nat) : Int); omega)
            | (show ((d.f0.begins.getD i 0 : Nat) : Int) ≤ ((d.f0.b.length : Nat) : Int); omega)
            )
          refine W.seeA ([(11, .own 1 1001 (d.f0.begins.getD i 0) p.length)]) ([]) [] ?_
          (conv => whnf); refine ⟨?_, ?_⟩; focus ((conv => whnf); refine ⟨rfl, rfl, rfl, rfl, rfl, rfl, ?_, ?_⟩; iterate 2 (focus ((repeat' apply And.intro) <;> first | exact trivial | (intro i _; rw [Nat.zero_add]; exact A.sim.refl _) | with_reducible exact rfl | exact fun _ _ => A.sim.refl _ | exact A.sim.refl _ | exact rfl | exact Nat.le_refl _ | omega | exact fun i _ => shift_sim _ _ i | exact fun _ _ => trivial | exact fun _ h => absurd h (Nat.not_lt_zero _) | (show d.f0.begins.getD (i + 1) 0 - d.f0.begins.getD i 0 = p.length; omega) | (show d.f0.b.length - d.f0.begins.getD i 0 = p.length; omega))))
          have hpd : (d.f0.b.drop (d.f0.begins.getD i 0)).take p.length = p := by
            rw [hpt]; exact List.take_length
          have hmt : (if (p.length : Int) < t then (p.length : Int) else t).toNat = (p.take t.toNat).length := by rw [List.length_take]; split <;> omega
          have hpd2 : (d.f0.b.drop (d.f0.begins.getD i 0)).take (p.take t.toNat).length = p.take t.toNat := by rw [List.length_take, ← List.take_take, hpd]
          have hfin : (d.f0.s ++ DK.lefts m t ((c : Int) - 1) d.f0.ps (i + 1)) = (d.f0.s ++ DK.lefts m t ((c : Int) - 1) d.f0.ps i) ++ p.take t.toNat := by rw [hsu, List.append_assoc]
          have hlt : (p.take t.toNat).length ≤ p.length := by rw [List.length_take]; omega
          repeat' first
            | assumption
            | exact Bool.noConfusion hb
            | exact absurd hb (by decide)
            | (exfalso; omega)
            | (exfalso; simp at hb; done)
            | exact absurd (hm0.symm.trans hb) (by decide)
            | exact absurd hm0 hb
            | exact absurd hb hm1
            | (exfalso; revert hb; rw [hm0]; decide)
            | (refine W.branch rfl (fun hb => ?_) (fun hb => ?_) <;> ((try simp only [decide_eq_true_eq, decide_eq_false_iff_not, Bool.not_eq_true', Bool.not_eq_false', Int.not_lt, Int.not_le, cond_true, cond_false, reduceCtorEq, Int.toNat_natCast, Int.reduceToNat, addI] at hb); (try replace hb := of_decide_eq_true hb); (try replace hb := of_decide_eq_false hb)))
            | (refine D.branch rfl (fun hb => ?_) (fun hb => ?_) <;> ((try simp only [decide_eq_true_eq, decide_eq_false_iff_not, Bool.not_eq_true', Bool.not_eq_false', Int.not_lt, Int.not_le, cond_true, cond_false, reduceCtorEq, Int.toNat_natCast, Int.reduceToNat, addI] at hb); (try replace hb := of_decide_eq_true hb); (try replace hb := of_decide_eq_false hb)))
            | (refine W.go Ts18OK 118 hΓ 1000 rfl ?_; (conv => whnf); refine ⟨?_, ?_⟩)
            | (refine D.go Ts18OK 118 hΓ 1000 rfl ?_; (conv => whnf); refine ⟨?_, ?_⟩)
            | (refine W.drawn rfl rfl ?_; refine D.run Ts18OK 118 hΓ 1000 ?_; (conv => whnf); refine ⟨?_, ?_⟩)
          all_goals (repeat' apply And.intro)
          all_goals try (first
            | exact trivial
            | exact rfl
            | exact fun _ _ => A.sim.refl _
            | exact A.sim.refl _
            | exact Nat.le_refl _
            | omega
            | exact fun _ _ => trivial
            | exact fun i _ => shift_sim _ _ i
            | exact fun _ h => absurd h (Nat.not_lt_zero _)
            | exact fun i _ => isInt_byteAt _ i
            | (split <;> omega)
            | (simp only [allP, List.nil_append, List.append_nil, List.cons_append, List.append_eq, and_true, true_and, inr_i64, inr_u8, inr_u64, min_i64, max_i64, min_u64, max_u64, min_u8, max_u8, A.purePL, A.pureP, A.sureP, A.surePL, Int.toNat_natCast, Int.reduceToNat, addI, cHi, cLo, hiN, loN, subO, addO, hasIdx, cond_true, cond_false]; first | done | omega | ((repeat' apply And.intro) <;> first | exact trivial | rfl | omega | decide))
            )
          refine W.seeA ([(11, .own 1 1001 (d.f0.begins.getD i 0) (p.take t.toNat).length)]) ([]) [] ?_
          (conv => whnf); refine ⟨?_, ?_⟩; focus ((conv => whnf); refine ⟨rfl, rfl, rfl, rfl, rfl, rfl, ?_, ?_⟩; iterate 2 (focus ((repeat' apply And.intro) <;> first | exact trivial | (intro i _; rw [Nat.zero_add]; exact A.sim.refl _) | with_reducible exact rfl | exact fun _ _ => A.sim.refl _ | exact A.sim.refl _ | exact rfl | exact Nat.le_refl _ | omega | exact fun i _ => shift_sim _ _ i | exact fun _ _ => trivial | exact fun _ h => absurd h (Nat.not_lt_zero _) | exact hmt)))
          have hfl2 : (d.f0.s ++ DK.lefts m t ((c : Int) - 1) d.f0.ps (i + 1)).length = (d.f0.s ++ DK.lefts m t ((c : Int) - 1) d.f0.ps i).length + (p.take t.toNat).length := by rw [hfin, List.length_append]
          have hsim : ∀ j, j < (d.f0.s ++ DK.lefts m t ((c : Int) - 1) d.f0.ps (i + 1)).length → (catF (d.f0.s ++ DK.lefts m t ((c : Int) - 1) d.f0.ps i).length (byteAt (d.f0.s ++ DK.lefts m t ((c : Int) - 1) d.f0.ps i)) (shiftF (d.f0.begins.getD i 0) (byteAt d.f0.b)) j).sim (byteAt (d.f0.s ++ DK.lefts m t ((c : Int) - 1) d.f0.ps (i + 1)) j) := by
            rw [hfin]
            exact cat_part rfl hpd2 (by rw [List.length_append]; exact Nat.le_refl _)
          repeat' first
            | assumption
            | exact Bool.noConfusion hb
            | exact absurd hb (by decide)
            | (exfalso; omega)
            | (exfalso; simp at hb; done)
            | exact absurd (hm0.symm.trans hb) (by decide)
            | exact absurd hm0 hb
            | exact absurd hb hm1
            | (exfalso; revert hb; rw [hm0]; decide)
            | (refine W.toA (ih (i + 1) ?_ ?_) ?_; rotate_left 2; (conv => whnf); refine ⟨rfl, rfl, rfl, rfl, rfl, rfl, ?_, ?_⟩; iterate 2 (focus ((repeat' apply And.intro) <;> first | exact trivial | (intro i _; rw [Nat.zero_add]; exact A.sim.refl _) | with_reducible exact rfl | exact fun _ _ => A.sim.refl _ | exact A.sim.refl _ | exact rfl | exact Nat.le_refl _ | omega | exact fun i _ => shift_sim _ _ i | exact fun _ _ => trivial | exact fun _ h => absurd h (Nat.not_lt_zero _) | exact hfl2 | exact hfl2.symm | exact Nat.le_of_eq hfl2 | exact hsim)))
            | (refine W.branch rfl (fun hb => ?_) (fun hb => ?_) <;> ((try simp only [decide_eq_true_eq, decide_eq_false_iff_not, Bool.not_eq_true', Bool.not_eq_false', Int.not_lt, Int.not_le, cond_true, cond_false, reduceCtorEq, Int.toNat_natCast, Int.reduceToNat, addI] at hb); (try replace hb := of_decide_eq_true hb); (try replace hb := of_decide_eq_false hb)))
            | (refine D.branch rfl (fun hb => ?_) (fun hb => ?_) <;> ((try simp only [decide_eq_true_eq, decide_eq_false_iff_not, Bool.not_eq_true', Bool.not_eq_false', Int.not_lt, Int.not_le, cond_true, cond_false, reduceCtorEq, Int.toNat_natCast, Int.reduceToNat, addI] at hb); (try replace hb := of_decide_eq_true hb); (try replace hb := of_decide_eq_false hb)))
            | (refine W.go TOK 118 hΓ 1000 rfl ?_; (conv => whnf); refine ⟨?_, ?_⟩)
            | (refine D.go TOK 118 hΓ 1000 rfl ?_; (conv => whnf); refine ⟨?_, ?_⟩)
            | (refine W.drawn rfl rfl ?_; refine D.run TOK 118 hΓ 1000 ?_; (conv => whnf); refine ⟨?_, ?_⟩)
          all_goals (repeat' apply And.intro)
          all_goals try (first
            | exact trivial
            | exact rfl
            | exact fun _ _ => A.sim.refl _
            | exact A.sim.refl _
            | exact Nat.le_refl _
            | omega
            | exact fun _ _ => trivial
            | exact fun i _ => shift_sim _ _ i
            | exact fun _ h => absurd h (Nat.not_lt_zero _)
            | exact fun i _ => isInt_byteAt _ i
            | (simp only [allP, List.nil_append, List.append_nil, List.cons_append, List.append_eq, and_true, true_and, inr_i64, inr_u8, inr_u64, min_i64, max_i64, min_u64, max_u64, min_u8, max_u8, A.purePL, A.pureP, A.sureP, A.surePL, Int.toNat_natCast, Int.reduceToNat, addI, cHi, cLo, hiN, loN, subO, addO, hasIdx, cond_true, cond_false]; first | done | omega | ((repeat' apply And.intro) <;> first | exact trivial | rfl | omega | decide))
            | (show (p.length : Int) * 1 ≤ 17592186044416; omega)
            | (rw [Int.toNat_natCast]; omega)
            )
        · have hle : DK.left m t ((c : Int) - 1) i p = p := by unfold DK.left; rw [if_neg (by simp [hbit]), if_neg ht]
          rw [hle] at hsu
          repeat' first
            | assumption
            | exact Bool.noConfusion hb
            | exact absurd hb (by decide)
            | (exfalso; omega)
            | (exfalso; simp at hb; done)
            | exact absurd (hm0.symm.trans hb) (by decide)
            | exact absurd hm0 hb
            | exact absurd hb hm1
            | (exfalso; revert hb; rw [hm0]; decide)
            | (refine W.branch rfl (fun hb => ?_) (fun hb => ?_) <;> ((try simp only [decide_eq_true_eq, decide_eq_false_iff_not, Bool.not_eq_true', Bool.not_eq_false', Int.not_lt, Int.not_le, cond_true, cond_false, reduceCtorEq, Int.toNat_natCast, Int.reduceToNat, addI] at hb); (try replace hb := of_decide_eq_true hb); (try replace hb := of_decide_eq_false hb)))
            | (refine D.branch rfl (fun hb => ?_) (fun hb => ?_) <;> ((try simp only [decide_eq_true_eq, decide_eq_false_iff_not, Bool.not_eq_true', Bool.not_eq_false', Int.not_lt, Int.not_le, cond_true, cond_false, reduceCtorEq, Int.toNat_natCast, Int.reduceToNat, addI] at hb); (try replace hb := of_decide_eq_true hb); (try replace hb := of_decide_eq_false hb)))
            | (refine W.go Ts14OK 118 hΓ 1000 rfl ?_; (conv => whnf); refine ⟨?_, ?_⟩)
            | (refine D.go Ts14OK 118 hΓ 1000 rfl ?_; (conv => whnf); refine ⟨?_, ?_⟩)
            | (refine W.drawn rfl rfl ?_; refine D.run Ts14OK 118 hΓ 1000 ?_; (conv => whnf); refine ⟨?_, ?_⟩)
          all_goals (repeat' apply And.intro)
          all_goals try (first
            | exact trivial
            | exact rfl
            | exact fun _ _ => A.sim.refl _
            | exact A.sim.refl _
            | exact Nat.le_refl _
            | omega
            | exact fun _ _ => trivial
            | exact fun i _ => shift_sim _ _ i
            | exact fun _ h => absurd h (Nat.not_lt_zero _)
            | exact fun i _ => isInt_byteAt _ i
            | (simp only [allP, List.nil_append, List.append_nil, List.cons_append, List.append_eq, and_true, true_and, inr_i64, inr_u8, inr_u64, min_i64, max_i64, min_u64, max_u64, min_u8, max_u8, A.purePL, A.pureP, A.sureP, A.surePL, Int.toNat_natCast, Int.reduceToNat, addI, cHi, cLo, hiN, loN, subO, addO, hasIdx, cond_true, cond_false]; first | done | omega | ((repeat' apply And.intro) <;> first | exact trivial | rfl | omega | decide))
            | (show ((d.f0.begins.getD (i + 1) 0 : Nat) : Int) ≤ ((d.f0.b.length : Nat) : Int); omega)
            | (show ((d.f0.begins.getD i 0 : Nat) : Int) ≤ ((d.f0.begins.getD (i + 1) 0 : Nat) : Int); omega)
            | (show ((d.f0.begins.getD i 0 : Nat) : Int) ≤ ((d.f0.b.length : Nat) : Int); omega)
            )
          refine W.seeA ([(11, .own 1 1001 (d.f0.begins.getD i 0) p.length)]) ([]) [] ?_
          (conv => whnf); refine ⟨?_, ?_⟩; focus ((conv => whnf); refine ⟨rfl, rfl, rfl, rfl, rfl, rfl, ?_, ?_⟩; iterate 2 (focus ((repeat' apply And.intro) <;> first | exact trivial | (intro i _; rw [Nat.zero_add]; exact A.sim.refl _) | with_reducible exact rfl | exact fun _ _ => A.sim.refl _ | exact A.sim.refl _ | exact rfl | exact Nat.le_refl _ | omega | exact fun i _ => shift_sim _ _ i | exact fun _ _ => trivial | exact fun _ h => absurd h (Nat.not_lt_zero _) | (show d.f0.begins.getD (i + 1) 0 - d.f0.begins.getD i 0 = p.length; omega) | (show d.f0.b.length - d.f0.begins.getD i 0 = p.length; omega))))
          have hpd : (d.f0.b.drop (d.f0.begins.getD i 0)).take p.length = p := by
            rw [hpt]; exact List.take_length
          have hfin : (d.f0.s ++ DK.lefts m t ((c : Int) - 1) d.f0.ps (i + 1)) = (d.f0.s ++ DK.lefts m t ((c : Int) - 1) d.f0.ps i) ++ p := by rw [hsu, List.append_assoc]
          have hfl2 : (d.f0.s ++ DK.lefts m t ((c : Int) - 1) d.f0.ps (i + 1)).length = (d.f0.s ++ DK.lefts m t ((c : Int) - 1) d.f0.ps i).length + p.length := by rw [hfin, List.length_append]
          have hsim : ∀ j, j < (d.f0.s ++ DK.lefts m t ((c : Int) - 1) d.f0.ps (i + 1)).length → (catF (d.f0.s ++ DK.lefts m t ((c : Int) - 1) d.f0.ps i).length (byteAt (d.f0.s ++ DK.lefts m t ((c : Int) - 1) d.f0.ps i)) (shiftF (d.f0.begins.getD i 0) (byteAt d.f0.b)) j).sim (byteAt (d.f0.s ++ DK.lefts m t ((c : Int) - 1) d.f0.ps (i + 1)) j) := by
            rw [hfin]
            exact cat_part rfl hpd (by rw [List.length_append]; exact Nat.le_refl _)
          repeat' first
            | assumption
            | exact Bool.noConfusion hb
            | exact absurd hb (by decide)
            | (exfalso; omega)
            | (exfalso; simp at hb; done)
            | exact absurd (hm0.symm.trans hb) (by decide)
            | exact absurd hm0 hb
            | exact absurd hb hm1
            | (exfalso; revert hb; rw [hm0]; decide)
            | (refine W.toA (ih (i + 1) ?_ ?_) ?_; rotate_left 2; (conv => whnf); refine ⟨rfl, rfl, rfl, rfl, rfl, rfl, ?_, ?_⟩; iterate 2 (focus ((repeat' apply And.intro) <;> first | exact trivial | (intro i _; rw [Nat.zero_add]; exact A.sim.refl _) | with_reducible exact rfl | exact fun _ _ => A.sim.refl _ | exact A.sim.refl _ | exact rfl | exact Nat.le_refl _ | omega | exact fun i _ => shift_sim _ _ i | exact fun _ _ => trivial | exact fun _ h => absurd h (Nat.not_lt_zero _) | exact hfl2 | exact hfl2.symm | exact Nat.le_of_eq hfl2 | exact hsim)))
            | (refine W.branch rfl (fun hb => ?_) (fun hb => ?_) <;> ((try simp only [decide_eq_true_eq, decide_eq_false_iff_not, Bool.not_eq_true', Bool.not_eq_false', Int.not_lt, Int.not_le, cond_true, cond_false, reduceCtorEq, Int.toNat_natCast, Int.reduceToNat, addI] at hb); (try replace hb := of_decide_eq_true hb); (try replace hb := of_decide_eq_false hb)))
            | (refine D.branch rfl (fun hb => ?_) (fun hb => ?_) <;> ((try simp only [decide_eq_true_eq, decide_eq_false_iff_not, Bool.not_eq_true', Bool.not_eq_false', Int.not_lt, Int.not_le, cond_true, cond_false, reduceCtorEq, Int.toNat_natCast, Int.reduceToNat, addI] at hb); (try replace hb := of_decide_eq_true hb); (try replace hb := of_decide_eq_false hb)))
            | (refine W.go TOK 118 hΓ 1000 rfl ?_; (conv => whnf); refine ⟨?_, ?_⟩)
            | (refine D.go TOK 118 hΓ 1000 rfl ?_; (conv => whnf); refine ⟨?_, ?_⟩)
            | (refine W.drawn rfl rfl ?_; refine D.run TOK 118 hΓ 1000 ?_; (conv => whnf); refine ⟨?_, ?_⟩)
          all_goals (repeat' apply And.intro)
          all_goals try (first
            | exact trivial
            | exact rfl
            | exact fun _ _ => A.sim.refl _
            | exact A.sim.refl _
            | exact Nat.le_refl _
            | omega
            | exact fun _ _ => trivial
            | exact fun i _ => shift_sim _ _ i
            | exact fun _ h => absurd h (Nat.not_lt_zero _)
            | exact fun i _ => isInt_byteAt _ i
            | (simp only [allP, List.nil_append, List.append_nil, List.cons_append, List.append_eq, and_true, true_and, inr_i64, inr_u8, inr_u64, min_i64, max_i64, min_u64, max_u64, min_u8, max_u8, A.purePL, A.pureP, A.sureP, A.surePL, Int.toNat_natCast, Int.reduceToNat, addI, cHi, cLo, hiN, loN, subO, addO, hasIdx, cond_true, cond_false]; first | done | omega | ((repeat' apply And.intro) <;> first | exact trivial | rfl | omega | decide))
            | (show (p.length : Int) * 1 ≤ 17592186044416; omega)
            | (rw [Int.toNat_natCast]; omega)
            )
      · rw [if_neg hbit] at hm0
        have hle : DK.left m t ((c : Int) - 1) i p = List.replicate p.length 0 := by unfold DK.left; rw [if_pos (by simpa using hbit)]
        rw [hle] at hsu
        repeat' first
          | assumption
          | exact Bool.noConfusion hb
          | exact absurd hb (by decide)
          | (exfalso; omega)
          | (exfalso; simp at hb; done)
          | exact absurd (hm0.symm.trans hb) (by decide)
          | exact absurd hm0 hb
          | exact absurd hb hm1
          | (exfalso; revert hb; rw [hm0]; decide)
          | (refine W.branch rfl (fun hb => ?_) (fun hb => ?_) <;> ((try simp only [decide_eq_true_eq, decide_eq_false_iff_not, Bool.not_eq_true', Bool.not_eq_false', Int.not_lt, Int.not_le, cond_true, cond_false, reduceCtorEq, Int.toNat_natCast, Int.reduceToNat, addI] at hb); (try replace hb := of_decide_eq_true hb); (try replace hb := of_decide_eq_false hb)))
          | (refine D.branch rfl (fun hb => ?_) (fun hb => ?_) <;> ((try simp only [decide_eq_true_eq, decide_eq_false_iff_not, Bool.not_eq_true', Bool.not_eq_false', Int.not_lt, Int.not_le, cond_true, cond_false, reduceCtorEq, Int.toNat_natCast, Int.reduceToNat, addI] at hb); (try replace hb := of_decide_eq_true hb); (try replace hb := of_decide_eq_false hb)))
          | (refine W.go Ts14OK 118 hΓ 1000 rfl ?_; (conv => whnf); refine ⟨?_, ?_⟩)
          | (refine D.go Ts14OK 118 hΓ 1000 rfl ?_; (conv => whnf); refine ⟨?_, ?_⟩)
          | (refine W.drawn rfl rfl ?_; refine D.run Ts14OK 118 hΓ 1000 ?_; (conv => whnf); refine ⟨?_, ?_⟩)
        all_goals (repeat' apply And.intro)
        all_goals try (first
          | exact trivial
          | exact rfl
          | exact fun _ _ => A.sim.refl _
          | exact A.sim.refl _
          | exact Nat.le_refl _
          | omega
          | exact fun _ _ => trivial
          | exact fun i _ => shift_sim _ _ i
          | exact fun _ h => absurd h (Nat.not_lt_zero _)
          | exact fun i _ => isInt_byteAt _ i
          | (simp only [allP, List.nil_append, List.append_nil, List.cons_append, List.append_eq, and_true, true_and, inr_i64, inr_u8, inr_u64, min_i64, max_i64, min_u64, max_u64, min_u8, max_u8, A.purePL, A.pureP, A.sureP, A.surePL, Int.toNat_natCast, Int.reduceToNat, addI, cHi, cLo, hiN, loN, subO, addO, hasIdx, cond_true, cond_false]; first | done | omega | ((repeat' apply And.intro) <;> first | exact trivial | rfl | omega | decide))
          | (show ((d.f0.begins.getD (i + 1) 0 : Nat) : Int) ≤ ((d.f0.b.length : Nat) : Int); omega)
          | (show ((d.f0.begins.getD i 0 : Nat) : Int) ≤ ((d.f0.begins.getD (i + 1) 0 : Nat) : Int); omega)
          | (show ((d.f0.begins.getD i 0 : Nat) : Int) ≤ ((d.f0.b.length : Nat) : Int); omega)
          )
        refine W.seeA ([(11, .own 1 1001 (d.f0.begins.getD i 0) p.length)]) ([]) [] ?_
        (conv => whnf); refine ⟨?_, ?_⟩; focus ((conv => whnf); refine ⟨rfl, rfl, rfl, rfl, rfl, rfl, ?_, ?_⟩; iterate 2 (focus ((repeat' apply And.intro) <;> first | exact trivial | (intro i _; rw [Nat.zero_add]; exact A.sim.refl _) | with_reducible exact rfl | exact fun _ _ => A.sim.refl _ | exact A.sim.refl _ | exact rfl | exact Nat.le_refl _ | omega | exact fun i _ => shift_sim _ _ i | exact fun _ _ => trivial | exact fun _ h => absurd h (Nat.not_lt_zero _) | (show d.f0.begins.getD (i + 1) 0 - d.f0.begins.getD i 0 = p.length; omega) | (show d.f0.b.length - d.f0.begins.getD i 0 = p.length; omega))))
        have hpd : (d.f0.b.drop (d.f0.begins.getD i 0)).take p.length = p := by
          rw [hpt]; exact List.take_length
        have hfin : (d.f0.s ++ DK.lefts m t ((c : Int) - 1) d.f0.ps (i + 1)) = (d.f0.s ++ DK.lefts m t ((c : Int) - 1) d.f0.ps i) ++ List.replicate p.length 0 := by rw [hsu, List.append_assoc]
        have hfl2 : (d.f0.s ++ DK.lefts m t ((c : Int) - 1) d.f0.ps (i + 1)).length = (d.f0.s ++ DK.lefts m t ((c : Int) - 1) d.f0.ps i).length + p.length := by rw [hfin, List.length_append, List.length_replicate]
        have hsim : ∀ j, j < (d.f0.s ++ DK.lefts m t ((c : Int) - 1) d.f0.ps (i + 1)).length → (catF (d.f0.s ++ DK.lefts m t ((c : Int) - 1) d.f0.ps i).length (byteAt (d.f0.s ++ DK.lefts m t ((c : Int) - 1) d.f0.ps i)) (fun _ => A.int .u8 0) j).sim (byteAt (d.f0.s ++ DK.lefts m t ((c : Int) - 1) d.f0.ps (i + 1)) j) := by
          rw [hfin]
          exact cat_zero rfl (by rw [List.length_append, List.length_replicate]; exact Nat.le_refl _)
        repeat' first
          | assumption
          | exact Bool.noConfusion hb
          | exact absurd hb (by decide)
          | (exfalso; omega)
          | (exfalso; simp at hb; done)
          | exact absurd (hm0.symm.trans hb) (by decide)
          | exact absurd hm0 hb
          | exact absurd hb hm1
          | (exfalso; revert hb; rw [hm0]; decide)
          | (refine W.toA (ih (i + 1) ?_ ?_) ?_; rotate_left 2; (conv => whnf); refine ⟨rfl, rfl, rfl, rfl, rfl, rfl, ?_, ?_⟩; iterate 2 (focus ((repeat' apply And.intro) <;> first | exact trivial | (intro i _; rw [Nat.zero_add]; exact A.sim.refl _) | with_reducible exact rfl | exact fun _ _ => A.sim.refl _ | exact A.sim.refl _ | exact rfl | exact Nat.le_refl _ | omega | exact fun i _ => shift_sim _ _ i | exact fun _ _ => trivial | exact fun _ h => absurd h (Nat.not_lt_zero _) | exact hfl2 | exact hfl2.symm | exact Nat.le_of_eq hfl2 | exact hsim)))
          | (refine W.branch rfl (fun hb => ?_) (fun hb => ?_) <;> ((try simp only [decide_eq_true_eq, decide_eq_false_iff_not, Bool.not_eq_true', Bool.not_eq_false', Int.not_lt, Int.not_le, cond_true, cond_false, reduceCtorEq, Int.toNat_natCast, Int.reduceToNat, addI] at hb); (try replace hb := of_decide_eq_true hb); (try replace hb := of_decide_eq_false hb)))
          | (refine D.branch rfl (fun hb => ?_) (fun hb => ?_) <;> ((try simp only [decide_eq_true_eq, decide_eq_false_iff_not, Bool.not_eq_true', Bool.not_eq_false', Int.not_lt, Int.not_le, cond_true, cond_false, reduceCtorEq, Int.toNat_natCast, Int.reduceToNat, addI] at hb); (try replace hb := of_decide_eq_true hb); (try replace hb := of_decide_eq_false hb)))
          | (refine W.go TOK 118 hΓ 1000 rfl ?_; (conv => whnf); refine ⟨?_, ?_⟩)
          | (refine D.go TOK 118 hΓ 1000 rfl ?_; (conv => whnf); refine ⟨?_, ?_⟩)
          | (refine W.drawn rfl rfl ?_; refine D.run TOK 118 hΓ 1000 ?_; (conv => whnf); refine ⟨?_, ?_⟩)
        all_goals (repeat' apply And.intro)
        all_goals try (first
          | exact trivial
          | exact rfl
          | exact fun _ _ => A.sim.refl _
          | exact A.sim.refl _
          | exact Nat.le_refl _
          | omega
          | exact fun _ _ => trivial
          | exact fun i _ => shift_sim _ _ i
          | exact fun _ h => absurd h (Nat.not_lt_zero _)
          | exact fun i _ => isInt_byteAt _ i
          | (simp only [allP, List.nil_append, List.append_nil, List.cons_append, List.append_eq, and_true, true_and, inr_i64, inr_u8, inr_u64, min_i64, max_i64, min_u64, max_u64, min_u8, max_u8, A.purePL, A.pureP, A.sureP, A.surePL, Int.toNat_natCast, Int.reduceToNat, addI, cHi, cLo, hiN, loN, subO, addO, hasIdx, cond_true, cond_false]; first | done | omega | ((repeat' apply And.intro) <;> first | exact trivial | rfl | omega | decide))
          | (show (p.length : Int) * 1 ≤ 17592186044416; omega)
          | (rw [Int.toNat_natCast]; omega)
          )
  · have hie : i = c := by omega
    subst hie
    repeat' first
      | assumption
      | exact Bool.noConfusion hb
      | exact absurd hb (by decide)
      | (exfalso; omega)
      | (exfalso; simp at hb; done)
      | exact absurd (hm0.symm.trans hb) (by decide)
      | exact absurd hm0 hb
      | exact absurd hb hm1
      | (exfalso; revert hb; rw [hm0]; decide)
      | (refine W.endA TOK rfl ?_; (conv => whnf); refine ⟨rfl, rfl, rfl, rfl, rfl, rfl, ?_, ?_, ?_⟩)
      | (refine W.branch rfl (fun hb => ?_) (fun hb => ?_) <;> ((try simp only [decide_eq_true_eq, decide_eq_false_iff_not, Bool.not_eq_true', Bool.not_eq_false', Int.not_lt, Int.not_le, cond_true, cond_false, reduceCtorEq, Int.toNat_natCast, Int.reduceToNat, addI] at hb); (try replace hb := of_decide_eq_true hb); (try replace hb := of_decide_eq_false hb)))
      | (refine D.branch rfl (fun hb => ?_) (fun hb => ?_) <;> ((try simp only [decide_eq_true_eq, decide_eq_false_iff_not, Bool.not_eq_true', Bool.not_eq_false', Int.not_lt, Int.not_le, cond_true, cond_false, reduceCtorEq, Int.toNat_natCast, Int.reduceToNat, addI] at hb); (try replace hb := of_decide_eq_true hb); (try replace hb := of_decide_eq_false hb)))
      | (refine W.go TOK 118 hΓ 1000 rfl ?_; (conv => whnf); refine ⟨?_, ?_⟩)
      | (refine D.go TOK 118 hΓ 1000 rfl ?_; (conv => whnf); refine ⟨?_, ?_⟩)
      | (refine W.drawn rfl rfl ?_; refine D.run TOK 118 hΓ 1000 ?_; (conv => whnf); refine ⟨?_, ?_⟩)
    all_goals (repeat' apply And.intro)
    all_goals try (first
      | exact trivial
      | exact rfl
      | exact fun _ _ => A.sim.refl _
      | exact A.sim.refl _
      | exact Nat.le_refl _
      | omega
      | exact fun _ _ => trivial
      | exact fun i _ => shift_sim _ _ i
      | exact fun _ h => absurd h (Nat.not_lt_zero _)
      | exact fun i _ => isInt_byteAt _ i
      | exact (List.length_append (bs := [])).symm
      | exact end_len _ _
      | exact (end_len _ _).symm
      | exact Nat.le_of_eq (end_len _ _).symm
      | exact Nat.le_of_eq (end_len _ _)
      | exact end_sim _ _
      | exact ⟨rfl, rfl⟩
      | (simp only [allP, List.nil_append, List.append_nil, List.cons_append, List.append_eq, and_true, true_and, inr_i64, inr_u8, inr_u64, min_i64, max_i64, min_u64, max_u64, min_u8, max_u8, A.purePL, A.pureP, A.sureP, A.surePL, Int.toNat_natCast, Int.reduceToNat, addI, cHi, cLo, hiN, loN, subO, addO, hasIdx, cond_true, cond_false]; first | done | omega | ((repeat' apply And.intro) <;> first | exact trivial | rfl | omega | decide))
      )

theorem crash_1 (d : DK.D) (m : Nat) (t : Int) (hm : m < 18446744073709551616) (ho : DK.Ok d) : Does Try.prog 21 [.ptr 1000 [.fld 0 9, .fld 3 3], .int .u64 m, .int .i64 t] (DR d) [1, 2] (Is (.tup []) (diskR 1000 1001 1002 1 2 1005 1006 (DK.set d 1 (DK.crashF m t d.f1)))) := by
  have h1 := ho.b0
  have h2 := ho.b1
  have h3 := ho.b2
  have h4 := ho.p0
  have h5 := ho.p1
  have h6 := ho.p2
  have hsb := DK.sure_le d.f1
  refine Does.intro (fn := Try.f21) Try.func21 rfl rfl fun Γ hΓ => ?_
  refine W.run TOK 118 hΓ 1000 ?_
  conv => whnf
  refine ⟨?_, ?_⟩
  repeat' first
    | assumption
    | exact Bool.noConfusion hb
    | exact absurd hb (by decide)
    | (exfalso; omega)
    | (exfalso; simp at hb; done)
    | (refine W.branch rfl (fun hb => ?_) (fun hb => ?_) <;> ((try simp only [decide_eq_true_eq, decide_eq_false_iff_not, Bool.not_eq_true', Bool.not_eq_false', Int.not_lt, Int.not_le, cond_true, cond_false, reduceCtorEq, Int.toNat_natCast, Int.reduceToNat, addI] at hb); (try replace hb := of_decide_eq_true hb); (try replace hb := of_decide_eq_false hb)))
    | (refine D.branch rfl (fun hb => ?_) (fun hb => ?_) <;> ((try simp only [decide_eq_true_eq, decide_eq_false_iff_not, Bool.not_eq_true', Bool.not_eq_false', Int.not_lt, Int.not_le, cond_true, cond_false, reduceCtorEq, Int.toNat_natCast, Int.reduceToNat, addI] at hb); (try replace hb := of_decide_eq_true hb); (try replace hb := of_decide_eq_false hb)))
    | (refine W.go TOK 118 hΓ 1000 rfl ?_; (conv => whnf); refine ⟨?_, ?_⟩)
    | (refine D.go TOK 118 hΓ 1000 rfl ?_; (conv => whnf); refine ⟨?_, ?_⟩)
    | (refine W.drawn rfl rfl ?_; refine D.run TOK 118 hΓ 1000 ?_; (conv => whnf); refine ⟨?_, ?_⟩)
  all_goals (repeat' apply And.intro)
  all_goals try (first
    | exact trivial
    | exact rfl
    | exact fun _ _ => A.sim.refl _
    | exact A.sim.refl _
    | exact Nat.le_refl _
    | omega
    | exact fun _ _ => trivial
    | exact fun i _ => shift_sim _ _ i
    | exact fun _ h => absurd h (Nat.not_lt_zero _)
    | exact fun i _ => isInt_byteAt _ i
    | (simp only [allP, List.nil_append, List.append_nil, List.cons_append, List.append_eq, and_true, true_and, inr_i64, inr_u8, inr_u64, min_i64, max_i64, min_u64, max_u64, min_u8, max_u8, A.purePL, A.pureP, A.sureP, A.surePL, Int.toNat_natCast, Int.reduceToNat, addI, cHi, cLo, hiN, loN, subO, addO, hasIdx, cond_true, cond_false]; first | done | omega | ((repeat' apply And.intro) <;> first | exact trivial | rfl | omega | decide))
    )
  refine W.seeA ([(17, .int .i64 (min d.f1.ps.length 64 : Nat))]) ([]) [] ?_
  (conv => whnf); refine ⟨?_, ?_⟩; focus ((conv => whnf); refine ⟨rfl, rfl, rfl, rfl, rfl, rfl, ?_, ?_⟩; iterate 2 (focus ((repeat' apply And.intro) <;> first | exact trivial | (intro i _; rw [Nat.zero_add]; exact A.sim.refl _) | with_reducible exact rfl | exact fun _ _ => A.sim.refl _ | exact A.sim.refl _ | exact rfl | exact Nat.le_refl _ | omega | exact fun i _ => shift_sim _ _ i | exact fun _ _ => trivial | exact fun _ h => absurd h (Nat.not_lt_zero _) | exact min64 _)))
  refine W.loopA (Nat) (fun i => i ≤ min d.f1.ps.length 64) (fun i => 64 - i) (fun i => [(6, .int .i64 (DK.lastB m i)), (18, .int .i64 i)]) (fun _ => []) [] (0) (Nat.zero_le _) ?_
  (conv => whnf); refine ⟨?_, ?_⟩; focus ((conv => whnf); refine ⟨rfl, rfl, rfl, rfl, rfl, rfl, ?_, ?_⟩; iterate 2 (focus ((repeat' apply And.intro) <;> first | exact trivial | (intro i _; rw [Nat.zero_add]; exact A.sim.refl _) | with_reducible exact rfl | exact fun _ _ => A.sim.refl _ | exact A.sim.refl _ | exact rfl | exact Nat.le_refl _ | omega | exact fun i _ => shift_sim _ _ i | exact fun _ _ => trivial | exact fun _ h => absurd h (Nat.not_lt_zero _))))
  rintro i hi ih
  have hlast := DK.lastB_le m i
  have hm0 := mask_bit m i hm
  by_cases hi2 : i < min d.f1.ps.length 64
  · by_cases hbit : m.testBit i = true
    · rw [if_pos hbit] at hm0
      have e : DK.lastB m (i + 1) = i := by show (if m.testBit i = true then (i : Int) else DK.lastB m i) = i; rw [if_pos hbit]
      repeat' first
        | assumption
        | exact Bool.noConfusion hb
        | exact absurd hb (by decide)
        | (exfalso; omega)
        | (exfalso; simp at hb; done)
        | exact absurd (hm0.symm.trans hb) (by decide)
        | exact absurd hm0 hb
        | exact absurd hb hm1
        | (exfalso; revert hb; rw [hm0]; decide)
        | (refine W.toA (ih (i + 1) ?_ ?_) ?_; rotate_left 2; (conv => whnf); refine ⟨rfl, rfl, rfl, rfl, rfl, rfl, ?_, ?_⟩; iterate 2 (focus ((repeat' apply And.intro) <;> first | exact trivial | (intro i _; rw [Nat.zero_add]; exact A.sim.refl _) | with_reducible exact rfl | exact fun _ _ => A.sim.refl _ | exact A.sim.refl _ | exact rfl | exact Nat.le_refl _ | omega | exact fun i _ => shift_sim _ _ i | exact fun _ _ => trivial | exact fun _ h => absurd h (Nat.not_lt_zero _) | exact e.symm | exact e)))
        | (refine W.branch rfl (fun hb => ?_) (fun hb => ?_) <;> ((try simp only [decide_eq_true_eq, decide_eq_false_iff_not, Bool.not_eq_true', Bool.not_eq_false', Int.not_lt, Int.not_le, cond_true, cond_false, reduceCtorEq, Int.toNat_natCast, Int.reduceToNat, addI] at hb); (try replace hb := of_decide_eq_true hb); (try replace hb := of_decide_eq_false hb)))
        | (refine D.branch rfl (fun hb => ?_) (fun hb => ?_) <;> ((try simp only [decide_eq_true_eq, decide_eq_false_iff_not, Bool.not_eq_true', Bool.not_eq_false', Int.not_lt, Int.not_le, cond_true, cond_false, reduceCtorEq, Int.toNat_natCast, Int.reduceToNat, addI] at hb); (try replace hb := of_decide_eq_true hb); (try replace hb := of_decide_eq_false hb)))
        | (refine W.go TOK 118 hΓ 1000 rfl ?_; (conv => whnf); refine ⟨?_, ?_⟩)
        | (refine D.go TOK 118 hΓ 1000 rfl ?_; (conv => whnf); refine ⟨?_, ?_⟩)
        | (refine W.drawn rfl rfl ?_; refine D.run TOK 118 hΓ 1000 ?_; (conv => whnf); refine ⟨?_, ?_⟩)
      all_goals (repeat' apply And.intro)
      all_goals try (first
        | exact trivial
        | exact rfl
        | exact fun _ _ => A.sim.refl _
        | exact A.sim.refl _
        | exact Nat.le_refl _
        | omega
        | exact fun _ _ => trivial
        | exact fun i _ => shift_sim _ _ i
        | exact fun _ h => absurd h (Nat.not_lt_zero _)
        | exact fun i _ => isInt_byteAt _ i
        | (simp only [allP, List.nil_append, List.append_nil, List.cons_append, List.append_eq, and_true, true_and, inr_i64, inr_u8, inr_u64, min_i64, max_i64, min_u64, max_u64, min_u8, max_u8, A.purePL, A.pureP, A.sureP, A.surePL, Int.toNat_natCast, Int.reduceToNat, addI, cHi, cLo, hiN, loN, subO, addO, hasIdx, cond_true, cond_false]; first | done | omega | ((repeat' apply And.intro) <;> first | exact trivial | rfl | omega | decide))
        )
    · rw [if_neg hbit] at hm0
      have e : DK.lastB m (i + 1) = DK.lastB m i := by show (if m.testBit i = true then (i : Int) else DK.lastB m i) = _; rw [if_neg hbit]
      repeat' first
        | assumption
        | exact Bool.noConfusion hb
        | exact absurd hb (by decide)
        | (exfalso; omega)
        | (exfalso; simp at hb; done)
        | exact absurd (hm0.symm.trans hb) (by decide)
        | exact absurd hm0 hb
        | exact absurd hb hm1
        | (exfalso; revert hb; rw [hm0]; decide)
        | (refine W.toA (ih (i + 1) ?_ ?_) ?_; rotate_left 2; (conv => whnf); refine ⟨rfl, rfl, rfl, rfl, rfl, rfl, ?_, ?_⟩; iterate 2 (focus ((repeat' apply And.intro) <;> first | exact trivial | (intro i _; rw [Nat.zero_add]; exact A.sim.refl _) | with_reducible exact rfl | exact fun _ _ => A.sim.refl _ | exact A.sim.refl _ | exact rfl | exact Nat.le_refl _ | omega | exact fun i _ => shift_sim _ _ i | exact fun _ _ => trivial | exact fun _ h => absurd h (Nat.not_lt_zero _) | exact e.symm | exact e)))
        | (refine W.branch rfl (fun hb => ?_) (fun hb => ?_) <;> ((try simp only [decide_eq_true_eq, decide_eq_false_iff_not, Bool.not_eq_true', Bool.not_eq_false', Int.not_lt, Int.not_le, cond_true, cond_false, reduceCtorEq, Int.toNat_natCast, Int.reduceToNat, addI] at hb); (try replace hb := of_decide_eq_true hb); (try replace hb := of_decide_eq_false hb)))
        | (refine D.branch rfl (fun hb => ?_) (fun hb => ?_) <;> ((try simp only [decide_eq_true_eq, decide_eq_false_iff_not, Bool.not_eq_true', Bool.not_eq_false', Int.not_lt, Int.not_le, cond_true, cond_false, reduceCtorEq, Int.toNat_natCast, Int.reduceToNat, addI] at hb); (try replace hb := of_decide_eq_true hb); (try replace hb := of_decide_eq_false hb)))
        | (refine W.go TOK 118 hΓ 1000 rfl ?_; (conv => whnf); refine ⟨?_, ?_⟩)
        | (refine D.go TOK 118 hΓ 1000 rfl ?_; (conv => whnf); refine ⟨?_, ?_⟩)
        | (refine W.drawn rfl rfl ?_; refine D.run TOK 118 hΓ 1000 ?_; (conv => whnf); refine ⟨?_, ?_⟩)
      all_goals (repeat' apply And.intro)
      all_goals try (first
        | exact trivial
        | exact rfl
        | exact fun _ _ => A.sim.refl _
        | exact A.sim.refl _
        | exact Nat.le_refl _
        | omega
        | exact fun _ _ => trivial
        | exact fun i _ => shift_sim _ _ i
        | exact fun _ h => absurd h (Nat.not_lt_zero _)
        | exact fun i _ => isInt_byteAt _ i
        | (simp only [allP, List.nil_append, List.append_nil, List.cons_append, List.append_eq, and_true, true_and, inr_i64, inr_u8, inr_u64, min_i64, max_i64, min_u64, max_u64, min_u8, max_u8, A.purePL, A.pureP, A.sureP, A.surePL, Int.toNat_natCast, Int.reduceToNat, addI, cHi, cLo, hiN, loN, subO, addO, hasIdx, cond_true, cond_false]; first | done | omega | ((repeat' apply And.intro) <;> first | exact trivial | rfl | omega | decide))
        )
  have hie : i = min d.f1.ps.length 64 := by omega
  subst hie
  clear ih hm0
  have hl0 : DK.lastB m (min d.f1.ps.length 64) = DK.lastOf m d.f1 := rfl
  rw [hl0] at hlast ⊢
  obtain ⟨c, hc⟩ : ∃ c : Nat, DK.lastOf m d.f1 = (c : Int) - 1 := ⟨(DK.lastOf m d.f1 + 1).toNat, by omega⟩
  have hcl : c ≤ d.f1.ps.length := by omega
  have hc1 : (DK.lastOf m d.f1 + 1).toNat = c := by omega
  have hcr : DK.crashF m t d.f1 = ⟨d.f1.s ++ DK.lefts m t (DK.lastOf m d.f1) d.f1.ps c, []⟩ := by rw [DK.crashF, hc1]
  rw [hcr, hc]
  repeat' first
    | assumption
    | exact Bool.noConfusion hb
    | exact absurd hb (by decide)
    | (exfalso; omega)
    | (exfalso; simp at hb; done)
    | (refine W.branch rfl (fun hb => ?_) (fun hb => ?_) <;> ((try simp only [decide_eq_true_eq, decide_eq_false_iff_not, Bool.not_eq_true', Bool.not_eq_false', Int.not_lt, Int.not_le, cond_true, cond_false, reduceCtorEq, Int.toNat_natCast, Int.reduceToNat, addI] at hb); (try replace hb := of_decide_eq_true hb); (try replace hb := of_decide_eq_false hb)))
    | (refine D.branch rfl (fun hb => ?_) (fun hb => ?_) <;> ((try simp only [decide_eq_true_eq, decide_eq_false_iff_not, Bool.not_eq_true', Bool.not_eq_false', Int.not_lt, Int.not_le, cond_true, cond_false, reduceCtorEq, Int.toNat_natCast, Int.reduceToNat, addI] at hb); (try replace hb := of_decide_eq_true hb); (try replace hb := of_decide_eq_false hb)))
    | ((first | (refine D.callA (clone_does d.f1.s.length (byteAt d.f1.b) (by omega)) rfl rfl rfl rfl hΓ rfl ?_; (conv => whnf); refine ⟨rfl, rfl, rfl, ?_, ?_, ?_, ?_⟩) | (refine W.callA (clone_does d.f1.s.length (byteAt d.f1.b) (by omega)) rfl rfl rfl rfl hΓ rfl ?_; (conv => whnf); refine ⟨rfl, rfl, ?_, ?_, ?_, ?_⟩)); iterate 3 (focus ((repeat' apply And.intro) <;> first | exact trivial | (intro i _; rw [Nat.zero_add]; exact A.sim.refl _) | with_reducible exact rfl | exact fun _ _ => A.sim.refl _ | exact A.sim.refl _ | exact rfl | exact Nat.le_refl _ | omega | exact fun i _ => shift_sim _ _ i | exact fun _ _ => trivial | exact fun _ h => absurd h (Nat.not_lt_zero _) | (simp only [addO, subO, hiN, loN, addI, Int.toNat_natCast]; omega))); (conv => whnf))
    | (refine W.go TOK 118 hΓ 1000 rfl ?_; (conv => whnf); refine ⟨?_, ?_⟩)
    | (refine D.go TOK 118 hΓ 1000 rfl ?_; (conv => whnf); refine ⟨?_, ?_⟩)
    | (refine W.drawn rfl rfl ?_; refine D.run TOK 118 hΓ 1000 ?_; (conv => whnf); refine ⟨?_, ?_⟩)
  all_goals (repeat' apply And.intro)
  all_goals try (first
    | exact trivial
    | exact rfl
    | exact fun _ _ => A.sim.refl _
    | exact A.sim.refl _
    | exact Nat.le_refl _
    | omega
    | exact fun _ _ => trivial
    | exact fun i _ => shift_sim _ _ i
    | exact fun _ h => absurd h (Nat.not_lt_zero _)
    | exact fun i _ => isInt_byteAt _ i
    | (simp only [allP, List.nil_append, List.append_nil, List.cons_append, List.append_eq, and_true, true_and, inr_i64, inr_u8, inr_u64, min_i64, max_i64, min_u64, max_u64, min_u8, max_u8, A.purePL, A.pureP, A.sureP, A.surePL, Int.toNat_natCast, Int.reduceToNat, addI, cHi, cLo, hiN, loN, subO, addO, hasIdx, cond_true, cond_false]; first | done | omega | ((repeat' apply And.intro) <;> first | exact trivial | rfl | omega | decide))
    )
  refine W.seeA ([(45, .int .i64 (c : Nat)), (44, .own 1 1004 0 c)]) ([]) [] ?_
  (conv => whnf); refine ⟨?_, ?_⟩; focus ((conv => whnf); refine ⟨rfl, rfl, rfl, rfl, rfl, rfl, ?_, ?_⟩; iterate 2 (focus ((repeat' apply And.intro) <;> first | exact trivial | (intro i _; rw [Nat.zero_add]; exact A.sim.refl _) | with_reducible exact rfl | exact fun _ _ => A.sim.refl _ | exact A.sim.refl _ | exact rfl | exact Nat.le_refl _ | omega | exact fun i _ => shift_sim _ _ i | exact fun _ _ => trivial | exact fun _ h => absurd h (Nat.not_lt_zero _) | (simp only [addO, subO, hiN, loN, addI]; omega) | (show ((c : Int) - 1 + 1).toNat = c; omega) | (show (((c : Int) - 1 + 1).toNat : Int) = c; omega))))
  refine W.loopA (Nat) (fun i => i ≤ c) (fun i => c - i) (fun i => [(8, .own 1 700 0 (d.f1.s ++ DK.lefts m t ((c : Int) - 1) d.f1.ps i).length), (46, .int .i64 i)]) (fun i => [(700, some (.arr 1 (d.f1.s ++ DK.lefts m t ((c : Int) - 1) d.f1.ps i).length (byteAt (d.f1.s ++ DK.lefts m t ((c : Int) - 1) d.f1.ps i))))]) [] (0) (Nat.zero_le _) ?_
  (conv => whnf); refine ⟨?_, ?_⟩; focus ((conv => whnf); refine ⟨rfl, rfl, rfl, rfl, rfl, rfl, ?_, ?_⟩; iterate 2 (focus ((repeat' apply And.intro) <;> first | exact trivial | (intro i _; rw [Nat.zero_add]; exact A.sim.refl _) | with_reducible exact rfl | exact fun _ _ => A.sim.refl _ | exact A.sim.refl _ | exact rfl | exact Nat.le_refl _ | omega | exact fun i _ => shift_sim _ _ i | exact fun _ _ => trivial | exact fun _ h => absurd h (Nat.not_lt_zero _) | exact (congrArg List.length (List.append_nil d.f1.s)).symm | exact Nat.le_of_eq (congrArg List.length (List.append_nil d.f1.s)) | exact sure_sim d.f1 m t ((c : Int) - 1))))
  rintro i hi ih
  by_cases hic : i < c
  · have hip : i < d.f1.ps.length := by omega
    have hat := DK.begins_le d.f1 hip
    have hsu := DK.lefts_succ m t ((c : Int) - 1) d.f1.ps i
    have hll := DK.lefts_len m t ((c : Int) - 1) d.f1.ps i (by omega)
    have hfl := DK.flat_le (ps := d.f1.ps) i
    have hbl : d.f1.b.length = d.f1.s.length + d.f1.ps.flatten.length := by rw [DK.F.b, List.length_append]
    have hm0 := mask_bit m i hm
    obtain ⟨p, hp⟩ : ∃ p, p = d.f1.ps.getD i [] := ⟨_, rfl⟩
    rw [← hp] at hat hsu
    have hol : (d.f1.s ++ DK.lefts m t ((c : Int) - 1) d.f1.ps i).length ≤ 1000000000 := by rw [List.length_append]; omega
    by_cases hn : i + 1 < d.f1.ps.length
    · have hpt := DK.part_in d.f1 hn
      have hnx := DK.begins_next d.f1 hn
      have hat2 := DK.begins_le d.f1 hn
      rw [← hp] at hpt hnx
      by_cases hbit : m.testBit i = true
      · rw [if_pos hbit] at hm0
        by_cases ht : (i : Int) = (c : Int) - 1 ∧ 0 ≤ t
        · have hle : DK.left m t ((c : Int) - 1) i p = p.take t.toNat := by unfold DK.left; rw [if_neg (by simp [hbit]), if_pos ht]
          rw [hle] at hsu
          repeat' first
            | assumption
            | exact Bool.noConfusion hb
            | exact absurd hb (by decide)
            | (exfalso; omega)
            | (exfalso; simp at hb; done)
            | exact absurd (hm0.symm.trans hb) (by decide)
            | exact absurd hm0 hb
            | exact absurd hb hm1
            | (exfalso; revert hb; rw [hm0]; decide)
            | (refine W.branch rfl (fun hb => ?_) (fun hb => ?_) <;> ((try simp only [decide_eq_true_eq, decide_eq_false_iff_not, Bool.not_eq_true', Bool.not_eq_false', Int.not_lt, Int.not_le, cond_true, cond_false, reduceCtorEq, Int.toNat_natCast, Int.reduceToNat, addI] at hb); (try replace hb := of_decide_eq_true hb); (try replace hb := of_decide_eq_false hb)))
            | (refine D.branch rfl (fun hb => ?_) (fun hb => ?_) <;> ((try simp only [decide_eq_true_eq, decide_eq_false_iff_not, Bool.not_eq_true', Bool.not_eq_false', Int.not_lt, Int.not_le, cond_true, cond_false, reduceCtorEq, Int.toNat_natCast, Int.reduceToNat, addI] at hb); (try replace hb := of_decide_eq_true hb); (try replace hb := of_decide_eq_false hb)))
            | (refine W.go Ts14OK 118 hΓ 1000 rfl ?_; (conv => whnf); refine ⟨?_, ?_⟩)
            | (refine D.go Ts14OK 118 hΓ 1000 rfl ?_; (conv => whnf); refine ⟨?_, ?_⟩)
            | (refine W.drawn rfl rfl ?_; refine D.run Ts14OK 118 hΓ 1000 ?_; (conv => whnf); refine ⟨?_, ?_⟩)
          all_goals (repeat' apply And.intro)
          all_goals try (first
            | exact trivial
            | exact rfl
            | exact fun _ _ => A.sim.refl _
            | exact A.sim.refl _
            | exact Nat.le_refl _
            | omega
            | exact fun _ _ => trivial
            | exact fun i _ => shift_sim _ _ i
            | exact fun _ h => absurd h (Nat.not_lt_zero _)
            | exact fun i _ => isInt_byteAt _ i
            | (simp only [allP, List.nil_append, List.append_nil, List.cons_append, List.append_eq, and_true, true_and, inr_i64, inr_u8, inr_u64, min_i64, max_i64, min_u64, max_u64, min_u8, max_u8, A.purePL, A.pureP, A.sureP, A.surePL, Int.toNat_natCast, Int.reduceToNat, addI, cHi, cLo, hiN, loN, subO, addO, hasIdx, cond_true, cond_false]; first | done | omega | ((repeat' apply And.intro) <;> first | exact trivial | rfl | omega | decide))
            | (show ((d.f1.begins.getD (i + 1) 0 : Nat) : Int) ≤ ((d.f1.b.length : Nat) : Int); omega)
            | (show ((d.f1.begins.getD i 0 : Nat) : Int) ≤ ((d.f1.begins.getD (i + 1) 0 : Nat) : Int); omega)
            | (show ((d.f1.begins.getD i 0 : Nat) : Int) ≤ ((d.f1.b.length : Nat) : Int); omega)
            )
          refine W.seeA ([(11, .own 1 1003 (d.f1.begins.getD i 0) p.length)]) ([]) [] ?_
          (conv => whnf); refine ⟨?_, ?_⟩; focus ((conv => whnf); refine ⟨rfl, rfl, rfl, rfl, rfl, rfl, ?_, ?_⟩; iterate 2 (focus ((repeat' apply And.intro) <;> first | exact trivial | (intro i _; rw [Nat.zero_add]; exact A.sim.refl _) | with_reducible exact rfl | exact fun _ _ => A.sim.refl _ | exact A.sim.refl _ | exact rfl | exact Nat.le_refl _ | omega | exact fun i _ => shift_sim _ _ i | exact fun _ _ => trivial | exact fun _ h => absurd h (Nat.not_lt_zero _) | (show d.f1.begins.getD (i + 1) 0 - d.f1.begins.getD i 0 = p.length; omega) | (show d.f1.b.length - d.f1.begins.getD i 0 = p.length; omega))))
          have hpd : (d.f1.b.drop (d.f1.begins.getD i 0)).take p.length = p := by
            rw [hnx, List.drop_take, Nat.add_sub_cancel_left] at hpt
            exact hpt
          have hmt : (if (p.length : Int) < t then (p.length : Int) else t).toNat = (p.take t.toNat).length := by rw [List.length_take]; split <;> omega
          have hpd2 : (d.f1.b.drop (d.f1.begins.getD i 0)).take (p.take t.toNat).length = p.take t.toNat := by rw [List.length_take, ← List.take_take, hpd]
          have hfin : (d.f1.s ++ DK.lefts m t ((c : Int) - 1) d.f1.ps (i + 1)) = (d.f1.s ++ DK.lefts m t ((c : Int) - 1) d.f1.ps i) ++ p.take t.toNat := by rw [hsu, List.append_assoc]
          have hlt : (p.take t.toNat).length ≤ p.length := by rw [List.length_take]; omega
          repeat' first
            | assumption
            | exact Bool.noConfusion hb
            | exact absurd hb (by decide)
            | (exfalso; omega)
            | (exfalso; simp at hb; done)
            | exact absurd (hm0.symm.trans hb) (by decide)
            | exact absurd hm0 hb
            | exact absurd hb hm1
            | (exfalso; revert hb; rw [hm0]; decide)
            | (refine W.branch rfl (fun hb => ?_) (fun hb => ?_) <;> ((try simp only [decide_eq_true_eq, decide_eq_false_iff_not, Bool.not_eq_true', Bool.not_eq_false', Int.not_lt, Int.not_le, cond_true, cond_false, reduceCtorEq, Int.toNat_natCast, Int.reduceToNat, addI] at hb); (try replace hb := of_decide_eq_true hb); (try replace hb := of_decide_eq_false hb)))
            | (refine D.branch rfl (fun hb => ?_) (fun hb => ?_) <;> ((try simp only [decide_eq_true_eq, decide_eq_false_iff_not, Bool.not_eq_true', Bool.not_eq_false', Int.not_lt, Int.not_le, cond_true, cond_false, reduceCtorEq, Int.toNat_natCast, Int.reduceToNat, addI] at hb); (try replace hb := of_decide_eq_true hb); (try replace hb := of_decide_eq_false hb)))
            | (refine W.go Ts18OK 118 hΓ 1000 rfl ?_; (conv => whnf); refine ⟨?_, ?_⟩)
            | (refine D.go Ts18OK 118 hΓ 1000 rfl ?_; (conv => whnf); refine ⟨?_, ?_⟩)
            | (refine W.drawn rfl rfl ?_; refine D.run Ts18OK 118 hΓ 1000 ?_; (conv => whnf); refine ⟨?_, ?_⟩)
          all_goals (repeat' apply And.intro)
          all_goals try (first
            | exact trivial
            | exact rfl
            | exact fun _ _ => A.sim.refl _
            | exact A.sim.refl _
            | exact Nat.le_refl _
            | omega
            | exact fun _ _ => trivial
            | exact fun i _ => shift_sim _ _ i
            | exact fun _ h => absurd h (Nat.not_lt_zero _)
            | exact fun i _ => isInt_byteAt _ i
            | (split <;> omega)
            | (simp only [allP, List.nil_append, List.append_nil, List.cons_append, List.append_eq, and_true, true_and, inr_i64, inr_u8, inr_u64, min_i64, max_i64, min_u64, max_u64, min_u8, max_u8, A.purePL, A.pureP, A.sureP, A.surePL, Int.toNat_natCast, Int.reduceToNat, addI, cHi, cLo, hiN, loN, subO, addO, hasIdx, cond_true, cond_false]; first | done | omega | ((repeat' apply And.intro) <;> first | exact trivial | rfl | omega | decide))
            )
          refine W.seeA ([(11, .own 1 1003 (d.f1.begins.getD i 0) (p.take t.toNat).length)]) ([]) [] ?_
          (conv => whnf); refine ⟨?_, ?_⟩; focus ((conv => whnf); refine ⟨rfl, rfl, rfl, rfl, rfl, rfl, ?_, ?_⟩; iterate 2 (focus ((repeat' apply And.intro) <;> first | exact trivial | (intro i _; rw [Nat.zero_add]; exact A.sim.refl _) | with_reducible exact rfl | exact fun _ _ => A.sim.refl _ | exact A.sim.refl _ | exact rfl | exact Nat.le_refl _ | omega | exact fun i _ => shift_sim _ _ i | exact fun _ _ => trivial | exact fun _ h => absurd h (Nat.not_lt_zero _) | exact hmt)))
          have hfl2 : (d.f1.s ++ DK.lefts m t ((c : Int) - 1) d.f1.ps (i + 1)).length = (d.f1.s ++ DK.lefts m t ((c : Int) - 1) d.f1.ps i).length + (p.take t.toNat).length := by rw [hfin, List.length_append]
          have hsim : ∀ j, j < (d.f1.s ++ DK.lefts m t ((c : Int) - 1) d.f1.ps (i + 1)).length → (catF (d.f1.s ++ DK.lefts m t ((c : Int) - 1) d.f1.ps i).length (byteAt (d.f1.s ++ DK.lefts m t ((c : Int) - 1) d.f1.ps i)) (shiftF (d.f1.begins.getD i 0) (byteAt d.f1.b)) j).sim (byteAt (d.f1.s ++ DK.lefts m t ((c : Int) - 1) d.f1.ps (i + 1)) j) := by
            rw [hfin]
            exact cat_part rfl hpd2 (by rw [List.length_append]; exact Nat.le_refl _)
          repeat' first
            | assumption
            | exact Bool.noConfusion hb
            | exact absurd hb (by decide)
            | (exfalso; omega)
            | (exfalso; simp at hb; done)
            | exact absurd (hm0.symm.trans hb) (by decide)
            | exact absurd hm0 hb
            | exact absurd hb hm1
            | (exfalso; revert hb; rw [hm0]; decide)
            | (refine W.toA (ih (i + 1) ?_ ?_) ?_; rotate_left 2; (conv => whnf); refine ⟨rfl, rfl, rfl, rfl, rfl, rfl, ?_, ?_⟩; iterate 2 (focus ((repeat' apply And.intro) <;> first | exact trivial | (intro i _; rw [Nat.zero_add]; exact A.sim.refl _) | with_reducible exact rfl | exact fun _ _ => A.sim.refl _ | exact A.sim.refl _ | exact rfl | exact Nat.le_refl _ | omega | exact fun i _ => shift_sim _ _ i | exact fun _ _ => trivial | exact fun _ h => absurd h (Nat.not_lt_zero _) | exact hfl2 | exact hfl2.symm | exact Nat.le_of_eq hfl2 | exact hsim)))
            | (refine W.branch rfl (fun hb => ?_) (fun hb => ?_) <;> ((try simp only [decide_eq_true_eq, decide_eq_false_iff_not, Bool.not_eq_true', Bool.not_eq_false', Int.not_lt, Int.not_le, cond_true, cond_false, reduceCtorEq, Int.toNat_natCast, Int.reduceToNat, addI] at hb); (try replace hb := of_decide_eq_true hb); (try replace hb := of_decide_eq_false hb)))
            | (refine D.branch rfl (fun hb => ?_) (fun hb => ?_) <;> ((try simp only [decide_eq_true_eq, decide_eq_false_iff_not, Bool.not_eq_true', Bool.not_eq_false', Int.not_lt, Int.not_le, cond_true, cond_false, reduceCtorEq, Int.toNat_natCast, Int.reduceToNat, addI] at hb); (try replace hb := of_decide_eq_true hb); (try replace hb := of_decide_eq_false hb)))
            | (refine W.go TOK 118 hΓ 1000 rfl ?_; (conv => whnf); refine ⟨?_, ?_⟩)
            | (refine D.go TOK 118 hΓ 1000 rfl ?_; (conv => whnf); refine ⟨?_, ?_⟩)
            | (refine W.drawn rfl rfl ?_; refine D.run TOK 118 hΓ 1000 ?_; (conv => whnf); refine ⟨?_, ?_⟩)
          all_goals (repeat' apply And.intro)
          all_goals try (first
            | exact trivial
            | exact rfl
            | exact fun _ _ => A.sim.refl _
            | exact A.sim.refl _
            | exact Nat.le_refl _
            | omega
            | exact fun _ _ => trivial
            | exact fun i _ => shift_sim _ _ i
            | exact fun _ h => absurd h (Nat.not_lt_zero _)
            | exact fun i _ => isInt_byteAt _ i
            | (simp only [allP, List.nil_append, List.append_nil, List.cons_append, List.append_eq, and_true, true_and, inr_i64, inr_u8, inr_u64, min_i64, max_i64, min_u64, max_u64, min_u8, max_u8, A.purePL, A.pureP, A.sureP, A.surePL, Int.toNat_natCast, Int.reduceToNat, addI, cHi, cLo, hiN, loN, subO, addO, hasIdx, cond_true, cond_false]; first | done | omega | ((repeat' apply And.intro) <;> first | exact trivial | rfl | omega | decide))
            | (show (p.length : Int) * 1 ≤ 17592186044416; omega)
            | (rw [Int.toNat_natCast]; omega)
            )
        · have hle : DK.left m t ((c : Int) - 1) i p = p := by unfold DK.left; rw [if_neg (by simp [hbit]), if_neg ht]
          rw [hle] at hsu
          repeat' first
            | assumption
            | exact Bool.noConfusion hb
            | exact absurd hb (by decide)
            | (exfalso; omega)
            | (exfalso; simp at hb; done)
            | exact absurd (hm0.symm.trans hb) (by decide)
            | exact absurd hm0 hb
            | exact absurd hb hm1
            | (exfalso; revert hb; rw [hm0]; decide)
            | (refine W.branch rfl (fun hb => ?_) (fun hb => ?_) <;> ((try simp only [decide_eq_true_eq, decide_eq_false_iff_not, Bool.not_eq_true', Bool.not_eq_false', Int.not_lt, Int.not_le, cond_true, cond_false, reduceCtorEq, Int.toNat_natCast, Int.reduceToNat, addI] at hb); (try replace hb := of_decide_eq_true hb); (try replace hb := of_decide_eq_false hb)))
            | (refine D.branch rfl (fun hb => ?_) (fun hb => ?_) <;> ((try simp only [decide_eq_true_eq, decide_eq_false_iff_not, Bool.not_eq_true', Bool.not_eq_false', Int.not_lt, Int.not_le, cond_true, cond_false, reduceCtorEq, Int.toNat_natCast, Int.reduceToNat, addI] at hb); (try replace hb := of_decide_eq_true hb); (try replace hb := of_decide_eq_false hb)))
            | (refine W.go Ts14OK 118 hΓ 1000 rfl ?_; (conv => whnf); refine ⟨?_, ?_⟩)
            | (refine D.go Ts14OK 118 hΓ 1000 rfl ?_; (conv => whnf); refine ⟨?_, ?_⟩)
            | (refine W.drawn rfl rfl ?_; refine D.run Ts14OK 118 hΓ 1000 ?_; (conv => whnf); refine ⟨?_, ?_⟩)
          all_goals (repeat' apply And.intro)
          all_goals try (first
            | exact trivial
            | exact rfl
            | exact fun _ _ => A.sim.refl _
            | exact A.sim.refl _
            | exact Nat.le_refl _
            | omega
            | exact fun _ _ => trivial
            | exact fun i _ => shift_sim _ _ i
            | exact fun _ h => absurd h (Nat.not_lt_zero _)
            | exact fun i _ => isInt_byteAt _ i
            | (simp only [allP, List.nil_append, List.append_nil, List.cons_append, List.append_eq, and_true, true_and, inr_i64, inr_u8, inr_u64, min_i64, max_i64, min_u64, max_u64, min_u8, max_u8, A.purePL, A.pureP, A.sureP, A.surePL, Int.toNat_natCast, Int.reduceToNat, addI, cHi, cLo, hiN, loN, subO, addO, hasIdx, cond_true, cond_false]; first | done | omega | ((repeat' apply And.intro) <;> first | exact trivial | rfl | omega | decide))
            | (show ((d.f1.begins.getD (i + 1) 0 : Nat) : Int) ≤ ((d.f1.b.length : Nat) : Int); omega)
            | (show ((d.f1.begins.getD i 0 : Nat) : Int) ≤ ((d.f1.begins.getD (i + 1) 0 : Nat) : Int); omega)
            | (show ((d.f1.begins.getD i 0 : Nat) : Int) ≤ ((d.f1.b.length : Nat) : Int); omega)
            )
          refine W.seeA ([(11, .own 1 1003 (d.f1.begins.getD i 0) p.length)]) ([]) [] ?_
          (conv => whnf); refine ⟨?_, ?_⟩; focus ((conv => whnf); refine ⟨rfl, rfl, rfl, rfl, rfl, rfl, ?_, ?_⟩; iterate 2 (focus ((repeat' apply And.intro) <;> first | exact trivial | (intro i _; rw [Nat.zero_add]; exact A.sim.refl _) | with_reducible exact rfl | exact fun _ _ => A.sim.refl _ | exact A.sim.refl _ | exact rfl | exact Nat.le_refl _ | omega | exact fun i _ => shift_sim _ _ i | exact fun _ _ => trivial | exact fun _ h => absurd h (Nat.not_lt_zero _) | (show d.f1.begins.getD (i + 1) 0 - d.f1.begins.getD i 0 = p.length; omega) | (show d.f1.b.length - d.f1.begins.getD i 0 = p.length; omega))))
          have hpd : (d.f1.b.drop (d.f1.begins.getD i 0)).take p.length = p := by
            rw [hnx, List.drop_take, Nat.add_sub_cancel_left] at hpt
            exact hpt
          have hfin : (d.f1.s ++ DK.lefts m t ((c : Int) - 1) d.f1.ps (i + 1)) = (d.f1.s ++ DK.lefts m t ((c : Int) - 1) d.f1.ps i) ++ p := by rw [hsu, List.append_assoc]
          have hfl2 : (d.f1.s ++ DK.lefts m t ((c : Int) - 1) d.f1.ps (i + 1)).length = (d.f1.s ++ DK.lefts m t ((c : Int) - 1) d.f1.ps i).length + p.length := by rw [hfin, List.length_append]
          have hsim : ∀ j, j < (d.f1.s ++ DK.lefts m t ((c : Int) - 1) d.f1.ps (i + 1)).length → (catF (d.f1.s ++ DK.lefts m t ((c : Int) - 1) d.f1.ps i).length (byteAt (d.f1.s ++ DK.lefts m t ((c : Int) - 1) d.f1.ps i)) (shiftF (d.f1.begins.getD i 0) (byteAt d.f1.b)) j).sim (byteAt (d.f1.s ++ DK.lefts m t ((c : Int) - 1) d.f1.ps (i + 1)) j) := by
            rw [hfin]
            exact cat_part rfl hpd (by rw [List.length_append]; exact Nat.le_refl _)
          repeat' first
            | assumption
            | exact Bool.noConfusion hb
            | exact absurd hb (by decide)
            | (exfalso; omega)
            | (exfalso; simp at hb; done)
            | exact absurd (hm0.symm.trans hb) (by decide)
            | exact absurd hm0 hb
            | exact absurd hb hm1
            | (exfalso; revert hb; rw [hm0]; decide)
            | (refine W.toA (ih (i + 1) ?_ ?_) ?_; rotate_left 2; (conv => whnf); refine ⟨rfl, rfl, rfl, rfl, rfl, rfl, ?_, ?_⟩; iterate 2 (focus ((repeat' apply And.intro) <;> first | exact trivial | (intro i _; rw [Nat.zero_add]; exact A.sim.refl _) | with_reducible exact rfl | exact fun _ _ => A.sim.refl _ | exact A.sim.refl _ | exact rfl | exact Nat.le_refl _ | omega | exact fun i _ => shift_sim _ _ i | exact fun _ _ => trivial | exact fun _ h => absurd h (Nat.not_lt_zero _) | exact hfl2 | exact hfl2.symm | exact Nat.le_of_eq hfl2 | exact hsim)))
            | (refine W.branch rfl (fun hb => ?_) (fun hb => ?_) <;> ((try simp only [decide_eq_true_eq, decide_eq_false_iff_not, Bool.not_eq_true', Bool.not_eq_false', Int.not_lt, Int.not_le, cond_true, cond_false, reduceCtorEq, Int.toNat_natCast, Int.reduceToNat, addI] at hb); (try replace hb := of_decide_eq_true hb); (try replace hb := of_decide_eq_false hb)))
            | (refine D.branch rfl (fun hb => ?_) (fun hb => ?_) <;> ((try simp only [decide_eq_true_eq, decide_eq_false_iff_not, Bool.not_eq_true', Bool.not_eq_false', Int.not_lt, Int.not_le, cond_true, cond_false, reduceCtorEq, Int.toNat_natCast, Int.reduceToNat, addI] at hb); (try replace hb := of_decide_eq_true hb); (try replace hb := of_decide_eq_false hb)))
            | (refine W.go TOK 118 hΓ 1000 rfl ?_; (conv => whnf); refine ⟨?_, ?_⟩)
            | (refine D.go TOK 118 hΓ 1000 rfl ?_; (conv => whnf); refine ⟨?_, ?_⟩)
            | (refine W.drawn rfl rfl ?_; refine D.run TOK 118 hΓ 1000 ?_; (conv => whnf); refine ⟨?_, ?_⟩)
          all_goals (repeat' apply And.intro)
          all_goals try (first
            | exact trivial
            | exact rfl
            | exact fun _ _ => A.sim.refl _
            | exact A.sim.refl _
            | exact Nat.le_refl _
            | omega
            | exact fun _ _ => trivial
            | exact fun i _ => shift_sim _ _ i
            | exact fun _ h => absurd h (Nat.not_lt_zero _)
            | exact fun i _ => isInt_byteAt _ i
            | (simp only [allP, List.nil_append, List.append_nil, List.cons_append, List.append_eq, and_true, true_and, inr_i64, inr_u8, inr_u64, min_i64, max_i64, min_u64, max_u64, min_u8, max_u8, A.purePL, A.pureP, A.sureP, A.surePL, Int.toNat_natCast, Int.reduceToNat, addI, cHi, cLo, hiN, loN, subO, addO, hasIdx, cond_true, cond_false]; first | done | omega | ((repeat' apply And.intro) <;> first | exact trivial | rfl | omega | decide))
            | (show (p.length : Int) * 1 ≤ 17592186044416; omega)
            | (rw [Int.toNat_natCast]; omega)
            )
      · rw [if_neg hbit] at hm0
        have hle : DK.left m t ((c : Int) - 1) i p = List.replicate p.length 0 := by unfold DK.left; rw [if_pos (by simpa using hbit)]
        rw [hle] at hsu
        repeat' first
          | assumption
          | exact Bool.noConfusion hb
          | exact absurd hb (by decide)
          | (exfalso; omega)
          | (exfalso; simp at hb; done)
          | exact absurd (hm0.symm.trans hb) (by decide)
          | exact absurd hm0 hb
          | exact absurd hb hm1
          | (exfalso; revert hb; rw [hm0]; decide)
          | (refine W.branch rfl (fun hb => ?_) (fun hb => ?_) <;> ((try simp only [decide_eq_true_eq, decide_eq_false_iff_not, Bool.not_eq_true', Bool.not_eq_false', Int.not_lt, Int.not_le, cond_true, cond_false, reduceCtorEq, Int.toNat_natCast, Int.reduceToNat, addI] at hb); (try replace hb := of_decide_eq_true hb); (try replace hb := of_decide_eq_false hb)))
          | (refine D.branch rfl (fun hb => ?_) (fun hb => ?_) <;> ((try simp only [decide_eq_true_eq, decide_eq_false_iff_not, Bool.not_eq_true', Bool.not_eq_false', Int.not_lt, Int.not_le, cond_true, cond_false, reduceCtorEq, Int.toNat_natCast, Int.reduceToNat, addI] at hb); (try replace hb := of_decide_eq_true hb); (try replace hb := of_decide_eq_false hb)))
          | (refine W.go Ts14OK 118 hΓ 1000 rfl ?_; (conv => whnf); refine ⟨?_, ?_⟩)
          | (refine D.go Ts14OK 118 hΓ 1000 rfl ?_; (conv => whnf); refine ⟨?_, ?_⟩)
          | (refine W.drawn rfl rfl ?_; refine D.run Ts14OK 118 hΓ 1000 ?_; (conv => whnf); refine ⟨?_, ?_⟩)
        all_goals (repeat' apply And.intro)
        all_goals try (first
          | exact trivial
          | exact rfl
          | exact fun _ _ => A.sim.refl _
          | exact A.sim.refl _
          | exact Nat.le_refl _
          | omega
          | exact fun _ _ => trivial
          | exact fun i _ => shift_sim _ _ i
          | exact fun _ h => absurd h (Nat.not_lt_zero _)
          | exact fun i _ => isInt_byteAt _ i
          | (simp only [allP, List.nil_append, List.append_nil, List.cons_append, List.append_eq, and_true, true_and, inr_i64, inr_u8, inr_u64, min_i64, max_i64, min_u64, max_u64, min_u8, max_u8, A.purePL, A.pureP, A.sureP, A.surePL, Int.toNat_natCast, Int.reduceToNat, addI, cHi, cLo, hiN, loN, subO, addO, hasIdx, cond_true, cond_false]; first | done | omega | ((repeat' apply And.intro) <;> first | exact trivial | rfl | omega | decide))
          | (show ((d.f1.begins.getD (i + 1) 0 : Nat) : Int) ≤ ((d.f1.b.length : Nat) : Int); omega)
          | (show ((d.f1.begins.getD i 0 : Nat) : Int) ≤ ((d.f1.begins.getD (i + 1) 0 : Nat) : Int); omega)
          | (show ((d.f1.begins.getD i 0 : Nat) : Int) ≤ ((d.f1.b.length : Nat) : Int); omega)
          )
        refine W.seeA ([(11, .own 1 1003 (d.f1.begins.getD i 0) p.length)]) ([]) [] ?_
        (conv => whnf); refine ⟨?_, ?_⟩; focus ((conv => whnf); refine ⟨rfl, rfl, rfl, rfl, rfl, rfl, ?_, ?_⟩; iterate 2 (focus ((repeat' apply And.intro) <;> first | exact trivial | (intro i _; rw [Nat.zero_add]; exact A.sim.refl _) | with_reducible exact rfl | exact fun _ _ => A.sim.refl _ | exact A.sim.refl _ | exact rfl | exact Nat.le_refl _ | omega | exact fun i _ => shift_sim _ _ i | exact fun _ _ => trivial | exact fun _ h => absurd h (Nat.not_lt_zero _) | (show d.f1.begins.getD (i + 1) 0 - d.f1.begins.getD i 0 = p.length; omega) | (show d.f1.b.length - d.f1.begins.getD i 0 = p.length; omega))))
        have hpd : (d.f1.b.drop (d.f1.begins.getD i 0)).take p.length = p := by
          rw [hnx, List.drop_take, Nat.add_sub_cancel_left] at hpt
          exact hpt
        have hfin : (d.f1.s ++ DK.lefts m t ((c : Int) - 1) d.f1.ps (i + 1)) = (d.f1.s ++ DK.lefts m t ((c : Int) - 1) d.f1.ps i) ++ List.replicate p.length 0 := by rw [hsu, List.append_assoc]
        have hfl2 : (d.f1.s ++ DK.lefts m t ((c : Int) - 1) d.f1.ps (i + 1)).length = (d.f1.s ++ DK.lefts m t ((c : Int) - 1) d.f1.ps i).length + p.length := by rw [hfin, List.length_append, List.length_replicate]
        have hsim : ∀ j, j < (d.f1.s ++ DK.lefts m t ((c : Int) - 1) d.f1.ps (i + 1)).length → (catF (d.f1.s ++ DK.lefts m t ((c : Int) - 1) d.f1.ps i).length (byteAt (d.f1.s ++ DK.lefts m t ((c : Int) - 1) d.f1.ps i)) (fun _ => A.int .u8 0) j).sim (byteAt (d.f1.s ++ DK.lefts m t ((c : Int) - 1) d.f1.ps (i + 1)) j) := by
          rw [hfin]
          exact cat_zero rfl (by rw [List.length_append, List.length_replicate]; exact Nat.le_refl _)
        repeat' first
          | assumption
          | exact Bool.noConfusion hb
          | exact absurd hb (by decide)
          | (exfalso; omega)
          | (exfalso; simp at hb; done)
          | exact absurd (hm0.symm.trans hb) (by decide)
          | exact absurd hm0 hb
          | exact absurd hb hm1
          | (exfalso; revert hb; rw [hm0]; decide)
          | (refine W.toA (ih (i + 1) ?_ ?_) ?_; rotate_left 2; (conv => whnf); refine ⟨rfl, rfl, rfl, rfl, rfl, rfl, ?_, ?_⟩; iterate 2 (focus ((repeat' apply And.intro) <;> first | exact trivial | (intro i _; rw [Nat.zero_add]; exact A.sim.refl _) | with_reducible exact rfl | exact fun _ _ => A.sim.refl _ | exact A.sim.refl _ | exact rfl | exact Nat.le_refl _ | omega | exact fun i _ => shift_sim _ _ i | exact fun _ _ => trivial | exact fun _ h => absurd h (Nat.not_lt_zero _) | exact hfl2 | exact hfl2.symm | exact Nat.le_of_eq hfl2 | exact hsim)))
          | (refine W.branch rfl (fun hb => ?_) (fun hb => ?_) <;> ((try simp only [decide_eq_true_eq, decide_eq_false_iff_not, Bool.not_eq_true', Bool.not_eq_false', Int.not_lt, Int.not_le, cond_true, cond_false, reduceCtorEq, Int.toNat_natCast, Int.reduceToNat, addI] at hb); (try replace hb := of_decide_eq_true hb); (try replace hb := of_decide_eq_false hb)))
          | (refine D.branch rfl (fun hb => ?_) (fun hb => ?_) <;> ((try simp only [decide_eq_true_eq, decide_eq_false_iff_not, Bool.not_eq_true', Bool.not_eq_false', Int.not_lt, Int.not_le, cond_true, cond_false, reduceCtorEq, Int.toNat_natCast, Int.reduceToNat, addI] at hb); (try replace hb := of_decide_eq_true hb); (try replace hb := of_decide_eq_false hb)))
          | (refine W.go TOK 118 hΓ 1000 rfl ?_; (conv => whnf); refine ⟨?_, ?_⟩)
          | (refine D.go TOK 118 hΓ 1000 rfl ?_; (conv => whnf); refine ⟨?_, ?_⟩)
          | (refine W.drawn rfl rfl ?_; refine D.run TOK 118 hΓ 1000 ?_; (conv => whnf); refine ⟨?_, ?_⟩)
        all_goals (repeat' apply And.intro)
        all_goals try (first
          | exact trivial
          | exact rfl
          | exact fun _ _ => A.sim.refl _
          | exact A.sim.refl _
          | exact Nat.le_refl _
          | omega
          | exact fun _ _ => trivial
          | exact fun i _ => shift_sim _ _ i
          | exact fun _ h => absurd h (Nat.not_lt_zero _)
          | exact fun i _ => isInt_byteAt _ i
          | (simp only [allP, List.nil_append, List.append_nil, List.cons_append, List.append_eq, and_true, true_and, inr_i64, inr_u8, inr_u64, min_i64, max_i64, min_u64, max_u64, min_u8, max_u8, A.purePL, A.pureP, A.sureP, A.surePL, Int.toNat_natCast, Int.reduceToNat, addI, cHi, cLo, hiN, loN, subO, addO, hasIdx, cond_true, cond_false]; first | done | omega | ((repeat' apply And.intro) <;> first | exact trivial | rfl | omega | decide))
          | (show (p.length : Int) * 1 ≤ 17592186044416; omega)
          | (rw [Int.toNat_natCast]; omega)
          )
    · have hpt := DK.part_last d.f1 (i := i) (by omega)
      have hnx := DK.begins_end d.f1 (i := i) (by omega)
      rw [← hp] at hpt hnx
      by_cases hbit : m.testBit i = true
      · rw [if_pos hbit] at hm0
        by_cases ht : (i : Int) = (c : Int) - 1 ∧ 0 ≤ t
        · have hle : DK.left m t ((c : Int) - 1) i p = p.take t.toNat := by unfold DK.left; rw [if_neg (by simp [hbit]), if_pos ht]
          rw [hle] at hsu
          repeat' first
            | assumption
            | exact Bool.noConfusion hb
            | exact absurd hb (by decide)
            | (exfalso; omega)
            | (exfalso; simp at hb; done)
            | exact absurd (hm0.symm.trans hb) (by decide)
            | exact absurd hm0 hb
            | exact absurd hb hm1
            | (exfalso; revert hb; rw [hm0]; decide)
            | (refine W.branch rfl (fun hb => ?_) (fun hb => ?_) <;> ((try simp only [decide_eq_true_eq, decide_eq_false_iff_not, Bool.not_eq_true', Bool.not_eq_false', Int.not_lt, Int.not_le, cond_true, cond_false, reduceCtorEq, Int.toNat_natCast, Int.reduceToNat, addI] at hb); (try replace hb := of_decide_eq_true hb); (try replace hb := of_decide_eq_false hb)))
            | (refine D.branch rfl (fun hb => ?_) (fun hb => ?_) <;> ((try simp only [decide_eq_true_eq, decide_eq_false_iff_not, Bool.not_eq_true', Bool.not_eq_false', Int.not_lt, Int.not_le, cond_true, cond_false, reduceCtorEq, Int.toNat_natCast, Int.reduceToNat, addI] at hb); (try replace hb := of_decide_eq_true hb); (try replace hb := of_decide_eq_false hb)))
            | (refine W.go Ts14OK 118 hΓ 1000 rfl ?_; (conv => whnf); refine ⟨?_, ?_⟩)
            | (refine D.go Ts14OK 118 hΓ 1000 rfl ?_; (conv => whnf); refine ⟨?_, ?_⟩)
            | (refine W.drawn rfl rfl ?_; refine D.run Ts14OK 118 hΓ 1000 ?_; (conv => whnf); refine ⟨?_, ?_⟩)
          all_goals (repeat' apply And.intro)
          all_goals try (first
            | exact trivial
            | exact rfl
            | exact fun _ _ => A.sim.refl _
            | exact A.sim.refl _
            | exact Nat.le_refl _
            | omega
            | exact fun _ _ => trivial
            | exact fun i _ => shift_sim _ _ i
            | exact fun _ h => absurd h (Nat.not_lt_zero _)
            | exact fun i _ => isInt_byteAt _ i
            | (simp only [allP, List.nil_append, List.append_nil, List.cons_append, List.append_eq, and_true, true_and, inr_i64, inr_u8, inr_u64, min_i64, max_i64, min_u64, max_u64, min_u8, max_u8, A.purePL, A.pureP, A.sureP, A.surePL, Int.toNat_natCast, Int.reduceToNat, addI, cHi, cLo, hiN, loN, subO, addO, hasIdx, cond_true, cond_false]; first | done | omega | ((repeat' apply And.intro) <;> first | exact trivial | rfl | omega | decide))
            | (show ((d.f1.begins.getD (i + 1) 0 : Nat) : Int) ≤ ((d.f1.b.length : Nat) : Int); omega)
            | (show ((d.f1.begins.getD i 0 : Nat) : Int) ≤ ((d.f1.begins.getD (i + 1) 0 : Nat) : Int); omega)
            | (show ((d.f1.begins.getD i 0 : Nat) : Int) ≤ ((d.f1.b.length : Nat) : Int); omega)
            )
          refine W.seeA ([(11, .own 1 1003 (d.f1.begins.getD i 0) p.length)]) ([]) [] ?_
          (conv => whnf); refine ⟨?_, ?_⟩; focus ((conv => whnf); refine ⟨rfl, rfl, rfl, rfl, rfl, rfl, ?_, ?_⟩; iterate 2 (focus ((repeat' apply And.intro) <;> first | exact trivial | (intro i _; rw [Nat.zero_add]; exact A.sim.refl _) | with_reducible exact rfl | exact fun _ _ => A.sim.refl _ | exact A.sim.refl _ | exact rfl | exact Nat.le_refl _ | omega | exact fun i _ => shift_sim _ _ i | exact fun _ _ => trivial | exact fun _ h => absurd h (Nat.not_lt_zero _) | (show d.f1.begins.getD (i + 1) 0 - d.f1.begins.getD i 0 = p.length; omega) | (show d.f1.b.length - d.f1.begins.getD i 0 = p.length; omega))))
          have hpd : (d.f1.b.drop (d.f1.begins.getD i 0)).take p.length = p := by
            rw [hpt]; exact List.take_length
          have hmt : (if (p.length : Int) < t then (p.length : Int) else t).toNat = (p.take t.toNat).length := by rw [List.length_take]; split <;> omega
          have hpd2 : (d.f1.b.drop (d.f1.begins.getD i 0)).take (p.take t.toNat).length = p.take t.toNat := by rw [List.length_take, ← List.take_take, hpd]
          have hfin : (d.f1.s ++ DK.lefts m t ((c : Int) - 1) d.f1.ps (i + 1)) = (d.f1.s ++ DK.lefts m t ((c : Int) - 1) d.f1.ps i) ++ p.take t.toNat := by rw [hsu, List.append_assoc]
          have hlt : (p.take t.toNat).length ≤ p.length := by rw [List.length_take]; omega
          repeat' first
            | assumption
            | exact Bool.noConfusion hb
            | exact absurd hb (by decide)
            | (exfalso; omega)
            | (exfalso; simp at hb; done)
            | exact absurd (hm0.symm.trans hb) (by decide)
            | exact absurd hm0 hb
            | exact absurd hb hm1
            | (exfalso; revert hb; rw [hm0]; decide)
            | (refine W.branch rfl (fun hb => ?_) (fun hb => ?_) <;> ((try simp only [decide_eq_true_eq, decide_eq_false_iff_not, Bool.not_eq_true', Bool.not_eq_false', Int.not_lt, Int.not_le, cond_true, cond_false, reduceCtorEq, Int.toNat_natCast, Int.reduceToNat, addI] at hb); (try replace hb := of_decide_eq_true hb); (try replace hb := of_decide_eq_false hb)))
            | (refine D.branch rfl (fun hb => ?_) (fun hb => ?_) <;> ((try simp only [decide_eq_true_eq, decide_eq_false_iff_not, Bool.not_eq_true', Bool.not_eq_false', Int.not_lt, Int.not_le, cond_true, cond_false, reduceCtorEq, Int.toNat_natCast, Int.reduceToNat, addI] at hb); (try replace hb := of_decide_eq_true hb); (try replace hb := of_decide_eq_false hb)))
            | (refine W.go Ts18OK 118 hΓ 1000 rfl ?_; (conv => whnf); refine ⟨?_, ?_⟩)
            | (refine D.go Ts18OK 118 hΓ 1000 rfl ?_; (conv => whnf); refine ⟨?_, ?_⟩)
            | (refine W.drawn rfl rfl ?_; refine D.run Ts18OK 118 hΓ 1000 ?_; (conv => whnf); refine ⟨?_, ?_⟩)
          all_goals (repeat' apply And.intro)
          all_goals try (first
            | exact trivial
            | exact rfl
            | exact fun _ _ => A.sim.refl _
            | exact A.sim.refl _
            | exact Nat.le_refl _
            | omega
            | exact fun _ _ => trivial
            | exact fun i _ => shift_sim _ _ i
            | exact fun _ h => absurd h (Nat.not_lt_zero _)
            | exact fun i _ => isInt_byteAt _ i
            | (split <;> omega)
            | (simp only [allP, List.nil_append, List.append_nil, List.cons_append, List.append_eq, and_true, true_and, inr_i64, inr_u8, inr_u64, min_i64, max_i64, min_u64, max_u64, min_u8, max_u8, A.purePL, A.pureP, A.sureP, A.surePL, Int.toNat_natCast, Int.reduceToNat, addI, cHi, cLo, hiN, loN, subO, addO, hasIdx, cond_true, cond_false]; first | done | omega | ((repeat' apply And.intro) <;> first | exact trivial | rfl | omega | decide))
            )
          refine W.seeA ([(11, .own 1 1003 (d.f1.begins.getD i 0) (p.take t.toNat).length)]) ([]) [] ?_
          (conv => whnf); refine ⟨?_, ?_⟩; focus ((conv => whnf); refine ⟨rfl, rfl, rfl, rfl, rfl, rfl, ?_, ?_⟩; iterate 2 (focus ((repeat' apply And.intro) <;> first | exact trivial | (intro i _; rw [Nat.zero_add]; exact A.sim.refl _) | with_reducible exact rfl | exact fun _ _ => A.sim.refl _ | exact A.sim.refl _ | exact rfl | exact Nat.le_refl _ | omega | exact fun i _ => shift_sim _ _ i | exact fun _ _ => trivial | exact fun _ h => absurd h (Nat.not_lt_zero _) | exact hmt)))
          have hfl2 : (d.f1.s ++ DK.lefts m t ((c : Int) - 1) d.f1.ps (i + 1)).length = (d.f1.s ++ DK.lefts m t ((c : Int) - 1) d.f1.ps i).length + (p.take t.toNat).length := by rw [hfin, List.length_append]
          have hsim : ∀ j, j < (d.f1.s ++ DK.lefts m t ((c : Int) - 1) d.f1.ps (i + 1)).length → (catF (d.f1.s ++ DK.lefts m t ((c : Int) - 1) d.f1.ps i).length (byteAt (d.f1.s ++ DK.lefts m t ((c : Int) - 1) d.f1.ps i)) (shiftF (d.f1.begins.getD i 0) (byteAt d.f1.b)) j).sim (byteAt (d.f1.s ++ DK.lefts m t ((c : Int) - 1) d.f1.ps (i + 1)) j) := by
            rw [hfin]
            exact cat_part rfl hpd2 (by rw [List.length_append]; exact Nat.le_refl _)
          repeat' first
            | assumption
            | exact Bool.noConfusion hb
            | exact absurd hb (by decide)
            | (exfalso; omega)
            | (exfalso; simp at hb; done)
            | exact absurd (hm0.symm.trans hb) (by decide)
            | exact absurd hm0 hb
            | exact absurd hb hm1
            | (exfalso; revert hb; rw [hm0]; decide)
            | (refine W.toA (ih (i + 1) ?_ ?_) ?_; rotate_left 2; (conv => whnf); refine ⟨rfl, rfl, rfl, rfl, rfl, rfl, ?_, ?_⟩; iterate 2 (focus ((repeat' apply And.intro) <;> first | exact trivial | (intro i _; rw [Nat.zero_add]; exact A.sim.refl _) | with_reducible exact rfl | exact fun _ _ => A.sim.refl _ | exact A.sim.refl _ | exact rfl | exact Nat.le_refl _ | omega | exact fun i _ => shift_sim _ _ i | exact fun _ _ => trivial | exact fun _ h => absurd h (Nat.not_lt_zero _) | exact hfl2 | exact hfl2.symm | exact Nat.le_of_eq hfl2 | exact hsim)))
            | (refine W.branch rfl (fun hb => ?_) (fun hb => ?_) <;> ((try simp only [decide_eq_true_eq, decide_eq_false_iff_not, Bool.not_eq_true', Bool.not_eq_false', Int.not_lt, Int.not_le, cond_true, cond_false, reduceCtorEq, Int.toNat_natCast, Int.reduceToNat, addI] at hb); (try replace hb := of_decide_eq_true hb); (try replace hb := of_decide_eq_false hb)))
            | (refine D.branch rfl (fun hb => ?_) (fun hb => ?_) <;> ((try simp only [decide_eq_true_eq, decide_eq_false_iff_not, Bool.not_eq_true', Bool.not_eq_false', Int.not_lt, Int.not_le, cond_true, cond_false, reduceCtorEq, Int.toNat_natCast, Int.reduceToNat, addI] at hb); (try replace hb := of_decide_eq_true hb); (try replace hb := of_decide_eq_false hb)))
            | (refine W.go TOK 118 hΓ 1000 rfl ?_; (conv => whnf); refine ⟨?_, ?_⟩)
            | (refine D.go TOK 118 hΓ 1000 rfl ?_; (conv => whnf); refine ⟨?_, ?_⟩)
            | (refine W.drawn rfl rfl ?_; refine D.run TOK 118 hΓ 1000 ?_; (conv => whnf); refine ⟨?_, ?_⟩)
          all_goals (repeat' apply And.intro)
          all_goals try (first
            | exact trivial
            | exact rfl
            | exact fun _ _ => A.sim.refl _
            | exact A.sim.refl _
            | exact Nat.le_refl _
            | omega
            | exact fun _ _ => trivial
            | exact fun i _ => shift_sim _ _ i
            | exact fun _ h => absurd h (Nat.not_lt_zero _)
            | exact fun i _ => isInt_byteAt _ i
            | (simp only [allP, List.nil_append, List.append_nil, List.cons_append, List.append_eq, and_true, true_and, inr_i64, inr_u8, inr_u64, min_i64, max_i64, min_u64, max_u64, min_u8, max_u8, A.purePL, A.pureP, A.sureP, A.surePL, Int.toNat_natCast, Int.reduceToNat, addI, cHi, cLo, hiN, loN, subO, addO, hasIdx, cond_true, cond_false]; first | done | omega | ((repeat' apply And.intro) <;> first | exact trivial | rfl | omega | decide))
            | (show (p.length : Int) * 1 ≤ 17592186044416; omega)
            | (rw [Int.toNat_natCast]; omega)
            )
        · have hle : DK.left m t ((c : Int) - 1) i p = p := by unfold DK.left; rw [if_neg (by simp [hbit]), if_neg ht]
          rw [hle] at hsu
          repeat' first
            | assumption
            | exact Bool.noConfusion hb
            | exact absurd hb (by decide)
            | (exfalso; omega)
            | (exfalso; simp at hb; done)
            | exact absurd (hm0.symm.trans hb) (by decide)
            | exact absurd hm0 hb
            | exact absurd hb hm1
            | (exfalso; revert hb; rw [hm0]; decide)
            | (refine W.branch rfl (fun hb => ?_) (fun hb => ?_) <;> ((try simp only [decide_eq_true_eq, decide_eq_false_iff_not, Bool.not_eq_true', Bool.not_eq_false', Int.not_lt, Int.not_le, cond_true, cond_false, reduceCtorEq, Int.toNat_natCast, Int.reduceToNat, addI] at hb); (try replace hb := of_decide_eq_true hb); (try replace hb := of_decide_eq_false hb)))
            | (refine D.branch rfl (fun hb => ?_) (fun hb => ?_) <;> ((try simp only [decide_eq_true_eq, decide_eq_false_iff_not, Bool.not_eq_true', Bool.not_eq_false', Int.not_lt, Int.not_le, cond_true, cond_false, reduceCtorEq, Int.toNat_natCast, Int.reduceToNat, addI] at hb); (try replace hb := of_decide_eq_true hb); (try replace hb := of_decide_eq_false hb)))
            | (refine W.go Ts14OK 118 hΓ 1000 rfl ?_; (conv => whnf); refine ⟨?_, ?_⟩)
            | (refine D.go Ts14OK 118 hΓ 1000 rfl ?_; (conv => whnf); refine ⟨?_, ?_⟩)
            | (refine W.drawn rfl rfl ?_; refine D.run Ts14OK 118 hΓ 1000 ?_; (conv => whnf); refine ⟨?_, ?_⟩)
          all_goals (repeat' apply And.intro)
          all_goals try (first
            | exact trivial
            | exact rfl
            | exact fun _ _ => A.sim.refl _
            | exact A.sim.refl _
            | exact Nat.le_refl _
            | omega
            | exact fun _ _ => trivial
            | exact fun i _ => shift_sim _ _ i
            | exact fun _ h => absurd h (Nat.not_lt_zero _)
            | exact fun i _ => isInt_byteAt _ i
            | (simp only [allP, List.nil_append, List.append_nil, List.cons_append, List.append_eq, and_true, true_and, inr_i64, inr_u8, inr_u64, min_i64, max_i64, min_u64, max_u64, min_u8, max_u8, A.purePL, A.pureP, A.sureP, A.surePL, Int.toNat_natCast, Int.reduceToNat, addI, cHi, cLo, hiN, loN, subO, addO, hasIdx, cond_true, cond_false]; first | done | omega | ((repeat' apply And.intro) <;> first | exact trivial | rfl | omega | decide))
            | (show ((d.f1.begins.getD (i + 1) 0 : Nat) : Int) ≤ ((d.f1.b.length : Nat) : Int); omega)
            | (show ((d.f1.begins.getD i 0 : Nat) : Int) ≤ ((d.f1.begins.getD (i + 1) 0 : Nat) : Int); omega)
            | (show ((d.f1.begins.getD i 0 : Nat) : Int) ≤ ((d.f1.b.length : Nat) : Int); omega)
            )
          refine W.seeA ([(11, .own 1 1003 (d.f1.begins.getD i 0) p.length)]) ([]) [] ?_
          (conv => whnf); refine ⟨?_, ?_⟩; focus ((conv => whnf); refine ⟨rfl, rfl, rfl, rfl, rfl, rfl, ?_, ?_⟩; iterate 2 (focus ((repeat' apply And.intro) <;> first | exact trivial | (intro i _; rw [Nat.zero_add]; exact A.sim.refl _) | with_reducible exact rfl | exact fun _ _ => A.sim.refl _ | exact A.sim.refl _ | exact rfl | exact Nat.le_refl _ | omega | exact fun i _ => shift_sim _ _ i | exact fun _ _ => trivial | exact fun _ h => absurd h (Nat.not_lt_zero _) | (show d.f1.begins.getD (i + 1) 0 - d.f1.begins.getD i 0 = p.length; omega) | (show d.f1.b.length - d.f1.begins.getD i 0 = p.length; omega))))
          have hpd : (d.f1.b.drop (d.f1.begins.getD i 0)).take p.length = p := by
            rw [hpt]; exact List.take_length
          have hfin : (d.f1.s ++ DK.lefts m t ((c : Int) - 1) d.f1.ps (i + 1)) = (d.f1.s ++ DK.lefts m t ((c : Int) - 1) d.f1.ps i) ++ p := by rw [hsu, List.append_assoc]
          have hfl2 : (d.f1.s ++ DK.lefts m t ((c : Int) - 1) d.f1.ps (i + 1)).length = (d.f1.s ++ DK.lefts m t ((c : Int) - 1) d.f1.ps i).length + p.length := by rw [hfin, List.length_append]
          have hsim : ∀ j, j < (d.f1.s ++ DK.lefts m t ((c : Int) - 1) d.f1.ps (i + 1)).length → (catF (d.f1.s ++ DK.lefts m t ((c : Int) - 1) d.f1.ps i).length (byteAt (d.f1.s ++ DK.lefts m t ((c : Int) - 1) d.f1.ps i)) (shiftF (d.f1.begins.getD i 0) (byteAt d.f1.b)) j).sim (byteAt (d.f1.s ++ DK.lefts m t ((c : Int) - 1) d.f1.ps (i + 1)) j) := by
            rw [hfin]
            exact cat_part rfl hpd (by rw [List.length_append]; exact Nat.le_refl _)
          repeat' first
            | assumption
            | exact Bool.noConfusion hb
            | exact absurd hb (by decide)
            | (exfalso; omega)
            | (exfalso; simp at hb; done)
            | exact absurd (hm0.symm.trans hb) (by decide)
            | exact absurd hm0 hb
            | exact absurd hb hm1
            | (exfalso; revert hb; rw [hm0]; decide)
            | (refine W.toA (ih (i + 1) ?_ ?_) ?_; rotate_left 2; (conv => whnf); refine ⟨rfl, rfl, rfl, rfl, rfl, rfl, ?_, ?_⟩; iterate 2 (focus ((repeat' apply And.intro) <;> first | exact trivial | (intro i _; rw [Nat.zero_add]; exact A.sim.refl _) | with_reducible exact rfl | exact fun _ _ => A.sim.refl _ | exact A.sim.refl _ | exact rfl | exact Nat.le_refl _ | omega | exact fun i _ => shift_sim _ _ i | exact fun _ _ => trivial | exact fun _ h => absurd h (Nat.not_lt_zero _) | exact hfl2 | exact hfl2.symm | exact Nat.le_of_eq hfl2 | exact hsim)))
            | (refine W.branch rfl (fun hb => ?_) (fun hb => ?_) <;> ((try simp only [decide_eq_true_eq, decide_eq_false_iff_not, Bool.not_eq_true', Bool.not_eq_false', Int.not_lt, Int.not_le, cond_true, cond_false, reduceCtorEq, Int.toNat_natCast, Int.reduceToNat, addI] at hb); (try replace hb := of_decide_eq_true hb); (try replace hb := of_decide_eq_false hb)))
            | (refine D.branch rfl (fun hb => ?_) (fun hb => ?_) <;> ((try simp only [decide_eq_true_eq, decide_eq_false_iff_not, Bool.not_eq_true', Bool.not_eq_false', Int.not_lt, Int.not_le, cond_true, cond_false, reduceCtorEq, Int.toNat_natCast, Int.reduceToNat, addI] at hb); (try replace hb := of_decide_eq_true hb); (try replace hb := of_decide_eq_false hb)))
            | (refine W.go TOK 118 hΓ 1000 rfl ?_; (conv => whnf); refine ⟨?_, ?_⟩)
            | (refine D.go TOK 118 hΓ 1000 rfl ?_; (conv => whnf); refine ⟨?_, ?_⟩)
            | (refine W.drawn rfl rfl ?_; refine D.run TOK 118 hΓ 1000 ?_; (conv => whnf); refine ⟨?_, ?_⟩)
          all_goals (repeat' apply And.intro)
          all_goals try (first
            | exact trivial
            | exact rfl
            | exact fun _ _ => A.sim.refl _
            | exact A.sim.refl _
            | exact Nat.le_refl _
            | omega
            | exact fun _ _ => trivial
            | exact fun i _ => shift_sim _ _ i
            | exact fun _ h => absurd h (Nat.not_lt_zero _)
            | exact fun i _ => isInt_byteAt _ i
            | (simp only [allP, List.nil_append, List.append_nil, List.cons_append, List.append_eq, and_true, true_and, inr_i64, inr_u8, inr_u64, min_i64, max_i64, min_u64, max_u64, min_u8, max_u8, A.purePL, A.pureP, A.sureP, A.surePL, Int.toNat_natCast, Int.reduceToNat, addI, cHi, cLo, hiN, loN, subO, addO, hasIdx, cond_true, cond_false]; first | done | omega | ((repeat' apply And.intro) <;> first | exact trivial | rfl | omega | decide))
            | (show (p.length : Int) * 1 ≤ 17592186044416; omega)
            | (rw [Int.toNat_natCast]; omega)
            )
      · rw [if_neg hbit] at hm0
        have hle : DK.left m t ((c : Int) - 1) i p = List.replicate p.length 0 := by unfold DK.left; rw [if_pos (by simpa using hbit)]
        rw [hle] at hsu
        repeat' first
          | assumption
          | exact Bool.noConfusion hb
          | exact absurd hb (by decide)
          | (exfalso; omega)
          | (exfalso; simp at hb; done)
          | exact absurd (hm0.symm.trans hb) (by decide)
          | exact absurd hm0 hb
          | exact absurd hb hm1
          | (exfalso; revert hb; rw [hm0]; decide)
          | (refine W.branch rfl (fun hb => ?_) (fun hb => ?_) <;> ((try simp only [decide_eq_true_eq, decide_eq_false_iff_not, Bool.not_eq_true', Bool.not_eq_false', Int.not_lt, Int.not_le, cond_true, cond_false, reduceCtorEq, Int.toNat_natCast, Int.reduceToNat, addI] at hb); (try replace hb := of_decide_eq_true hb); (try replace hb := of_decide_eq_false hb)))
          | (refine D.branch rfl (fun hb => ?_) (fun hb => ?_) <;> ((try simp only [decide_eq_true_eq, decide_eq_false_iff_not, Bool.not_eq_true', Bool.not_eq_false', Int.not_lt, Int.not_le, cond_true, cond_false, reduceCtorEq, Int.toNat_natCast, Int.reduceToNat, addI] at hb); (try replace hb := of_decide_eq_true hb); (try replace hb := of_decide_eq_false hb)))
          | (refine W.go Ts14OK 118 hΓ 1000 rfl ?_; (conv => whnf); refine ⟨?_, ?_⟩)
          | (refine D.go Ts14OK 118 hΓ 1000 rfl ?_; (conv => whnf); refine ⟨?_, ?_⟩)
          | (refine W.drawn rfl rfl ?_; refine D.run Ts14OK 118 hΓ 1000 ?_; (conv => whnf); refine ⟨?_, ?_⟩)
        all_goals (repeat' apply And.intro)
        all_goals try (first
          | exact trivial
          | exact rfl
          | exact fun _ _ => A.sim.refl _
          | exact A.sim.refl _
          | exact Nat.le_refl _
          | omega
          | exact fun _ _ => trivial
          | exact fun i _ => shift_sim _ _ i
          | exact fun _ h => absurd h (Nat.not_lt_zero _)
          | exact fun i _ => isInt_byteAt _ i
          | (simp only [allP, List.nil_append, List.append_nil, List.cons_append, List.append_eq, and_true, true_and, inr_i64, inr_u8, inr_u64, min_i64, max_i64, min_u64, max_u64, min_u8, max_u8, A.purePL, A.pureP, A.sureP, A.surePL, Int.toNat_natCast, Int.reduceToNat, addI, cHi, cLo, hiN, loN, subO, addO, hasIdx, cond_true, cond_false]; first | done | omega | ((repeat' apply And.intro) <;> first | exact trivial | rfl | omega | decide))
          | (show ((d.f1.begins.getD (i + 1) 0 : Nat) : Int) ≤ ((d.f1.b.length : Nat) : Int); omega)
          | (show ((d.f1.begins.getD i 0 : Nat) : Int) ≤ ((d.f1.begins.getD (i + 1) 0 : Nat) : Int); omega)
          | (show ((d.f1.begins.getD i 0 : Nat) : Int) ≤ ((d.f1.b.length : Nat) : Int); omega)
          )
        refine W.seeA ([(11, .own 1 1003 (d.f1.begins.getD i 0) p.length)]) ([]) [] ?_
        (conv => whnf); refine ⟨?_, ?_⟩; focus ((conv => whnf); refine ⟨rfl, rfl, rfl, rfl, rfl, rfl, ?_, ?_⟩; iterate 2 (focus ((repeat' apply And.intro) <;> first | exact trivial | (intro i _; rw [Nat.zero_add]; exact A.sim.refl _) | with_reducible exact rfl | exact fun _ _ => A.sim.refl _ | exact A.sim.refl _ | exact rfl | exact Nat.le_refl _ | omega | exact fun i _ => shift_sim _ _ i | exact fun _ _ => trivial | exact fun _ h => absurd h (Nat.not_lt_zero _) | (show d.f1.begins.getD (i + 1) 0 - d.f1.begins.getD i 0 = p.length; omega) | (show d.f1.b.length - d.f1.begins.getD i 0 = p.length; omega))))
        have hpd : (d.f1.b.drop (d.f1.begins.getD i 0)).take p.length = p := by
          rw [hpt]; exact List.take_length
        have hfin : (d.f1.s ++ DK.lefts m t ((c : Int) - 1) d.f1.ps (i + 1)) = (d.f1.s ++ DK.lefts m t ((c : Int) - 1) d.f1.ps i) ++ List.replicate p.length 0 := by rw [hsu, List.append_assoc]
        have hfl2 : (d.f1.s ++ DK.lefts m t ((c : Int) - 1) d.f1.ps (i + 1)).length = (d.f1.s ++ DK.lefts m t ((c : Int) - 1) d.f1.ps i).length + p.length := by rw [hfin, List.length_append, List.length_replicate]
        have hsim : ∀ j, j < (d.f1.s ++ DK.lefts m t ((c : Int) - 1) d.f1.ps (i + 1)).length → (catF (d.f1.s ++ DK.lefts m t ((c : Int) - 1) d.f1.ps i).length (byteAt (d.f1.s ++ DK.lefts m t ((c : Int) - 1) d.f1.ps i)) (fun _ => A.int .u8 0) j).sim (byteAt (d.f1.s ++ DK.lefts m t ((c : Int) - 1) d.f1.ps (i + 1)) j) := by
          rw [hfin]
          exact cat_zero rfl (by rw [List.length_append, List.length_replicate]; exact Nat.le_refl _)
        repeat' first
          | assumption
          | exact Bool.noConfusion hb
          | exact absurd hb (by decide)
          | (exfalso; omega)
          | (exfalso; simp at hb; done)
          | exact absurd (hm0.symm.trans hb) (by decide)
          | exact absurd hm0 hb
          | exact absurd hb hm1
          | (exfalso; revert hb; rw [hm0]; decide)
          | (refine W.toA (ih (i + 1) ?_ ?_) ?_; rotate_left 2; (conv => whnf); refine ⟨rfl, rfl, rfl, rfl, rfl, rfl, ?_, ?_⟩; iterate 2 (focus ((repeat' apply And.intro) <;> first | exact trivial | (intro i _; rw [Nat.zero_add]; exact A.sim.refl _) | with_reducible exact rfl | exact fun _ _ => A.sim.refl _ | exact A.sim.refl _ | exact rfl | exact Nat.le_refl _ | omega | exact fun i _ => shift_sim _ _ i | exact fun _ _ => trivial | exact fun _ h => absurd h (Nat.not_lt_zero _) | exact hfl2 | exact hfl2.symm | exact Nat.le_of_eq hfl2 | exact hsim)))
          | (refine W.branch rfl (fun hb => ?_) (fun hb => ?_) <;> ((try simp only [decide_eq_true_eq, decide_eq_false_iff_not, Bool.not_eq_true', Bool.not_eq_false', Int.not_lt, Int.not_le, cond_true, cond_false, reduceCtorEq, Int.toNat_natCast, Int.reduceToNat, addI] at hb); (try replace hb := of_decide_eq_true hb); (try replace hb := of_decide_eq_false hb)))
          | (refine D.branch rfl (fun hb => ?_) (fun hb => ?_) <;> ((try simp only [decide_eq_true_eq, decide_eq_false_iff_not, Bool.not_eq_true', Bool.not_eq_false', Int.not_lt, Int.not_le, cond_true, cond_false, reduceCtorEq, Int.toNat_natCast, Int.reduceToNat, addI] at hb); (try replace hb := of_decide_eq_true hb); (try replace hb := of_decide_eq_false hb)))
          | (refine W.go TOK 118 hΓ 1000 rfl ?_; (conv => whnf); refine ⟨?_, ?_⟩)
          | (refine D.go TOK 118 hΓ 1000 rfl ?_; (conv => whnf); refine ⟨?_, ?_⟩)
          | (refine W.drawn rfl rfl ?_; refine D.run TOK 118 hΓ 1000 ?_; (conv => whnf); refine ⟨?_, ?_⟩)
        all_goals (repeat' apply And.intro)
        all_goals try (first
          | exact trivial
          | exact rfl
          | exact fun _ _ => A.sim.refl _
          | exact A.sim.refl _
          | exact Nat.le_refl _
          | omega
          | exact fun _ _ => trivial
          | exact fun i _ => shift_sim _ _ i
          | exact fun _ h => absurd h (Nat.not_lt_zero _)
          | exact fun i _ => isInt_byteAt _ i
          | (simp only [allP, List.nil_append, List.append_nil, List.cons_append, List.append_eq, and_true, true_and, inr_i64, inr_u8, inr_u64, min_i64, max_i64, min_u64, max_u64, min_u8, max_u8, A.purePL, A.pureP, A.sureP, A.surePL, Int.toNat_natCast, Int.reduceToNat, addI, cHi, cLo, hiN, loN, subO, addO, hasIdx, cond_true, cond_false]; first | done | omega | ((repeat' apply And.intro) <;> first | exact trivial | rfl | omega | decide))
          | (show (p.length : Int) * 1 ≤ 17592186044416; omega)
          | (rw [Int.toNat_natCast]; omega)
          )
  · have hie : i = c := by omega
    subst hie
    repeat' first
      | assumption
      | exact Bool.noConfusion hb
      | exact absurd hb (by decide)
      | (exfalso; omega)
      | (exfalso; simp at hb; done)
      | exact absurd (hm0.symm.trans hb) (by decide)
      | exact absurd hm0 hb
      | exact absurd hb hm1
      | (exfalso; revert hb; rw [hm0]; decide)
      | (refine W.endA TOK rfl ?_; (conv => whnf); refine ⟨rfl, rfl, rfl, rfl, rfl, rfl, ?_, ?_, ?_⟩)
      | (refine W.branch rfl (fun hb => ?_) (fun hb => ?_) <;> ((try simp only [decide_eq_true_eq, decide_eq_false_iff_not, Bool.not_eq_true', Bool.not_eq_false', Int.not_lt, Int.not_le, cond_true, cond_false, reduceCtorEq, Int.toNat_natCast, Int.reduceToNat, addI] at hb); (try replace hb := of_decide_eq_true hb); (try replace hb := of_decide_eq_false hb)))
      | (refine D.branch rfl (fun hb => ?_) (fun hb => ?_) <;> ((try simp only [decide_eq_true_eq, decide_eq_false_iff_not, Bool.not_eq_true', Bool.not_eq_false', Int.not_lt, Int.not_le, cond_true, cond_false, reduceCtorEq, Int.toNat_natCast, Int.reduceToNat, addI] at hb); (try replace hb := of_decide_eq_true hb); (try replace hb := of_decide_eq_false hb)))
      | (refine W.go TOK 118 hΓ 1000 rfl ?_; (conv => whnf); refine ⟨?_, ?_⟩)
      | (refine D.go TOK 118 hΓ 1000 rfl ?_; (conv => whnf); refine ⟨?_, ?_⟩)
      | (refine W.drawn rfl rfl ?_; refine D.run TOK 118 hΓ 1000 ?_; (conv => whnf); refine ⟨?_, ?_⟩)
    all_goals (repeat' apply And.intro)
    all_goals try (first
      | exact trivial
      | exact rfl
      | exact fun _ _ => A.sim.refl _
      | exact A.sim.refl _
      | exact Nat.le_refl _
      | omega
      | exact fun _ _ => trivial
      | exact fun i _ => shift_sim _ _ i
      | exact fun _ h => absurd h (Nat.not_lt_zero _)
      | exact fun i _ => isInt_byteAt _ i
      | exact (List.length_append (bs := [])).symm
      | exact end_len _ _
      | exact (end_len _ _).symm
      | exact Nat.le_of_eq (end_len _ _).symm
      | exact Nat.le_of_eq (end_len _ _)
      | exact end_sim _ _
      | exact ⟨rfl, rfl⟩
      | (simp only [allP, List.nil_append, List.append_nil, List.cons_append, List.append_eq, and_true, true_and, inr_i64, inr_u8, inr_u64, min_i64, max_i64, min_u64, max_u64, min_u8, max_u8, A.purePL, A.pureP, A.sureP, A.surePL, Int.toNat_natCast, Int.reduceToNat, addI, cHi, cLo, hiN, loN, subO, addO, hasIdx, cond_true, cond_false]; first | done | omega | ((repeat' apply And.intro) <;> first | exact trivial | rfl | omega | decide))
      )

theorem crash_2 (d : DK.D) (m : Nat) (t : Int) (hm : m < 18446744073709551616) (ho : DK.Ok d) : Does Try.prog 21 [.ptr 1000 [.fld 0 9, .fld 6 3], .int .u64 m, .int .i64 t] (DR d) [1, 2] (Is (.tup []) (diskR 1000 1001 1002 1003 1004 1 2 (DK.set d 2 (DK.crashF m t d.f2)))) := by
  have h1 := ho.b0
  have h2 := ho.b1
  have h3 := ho.b2
  have h4 := ho.p0
  have h5 := ho.p1
  have h6 := ho.p2
  have hsb := DK.sure_le d.f2
  refine Does.intro (fn := Try.f21) Try.func21 rfl rfl fun Γ hΓ => ?_
  refine W.run TOK 118 hΓ 1000 ?_
  conv => whnf
  refine ⟨?_, ?_⟩
  repeat' first
    | assumption
    | exact Bool.noConfusion hb
    | exact absurd hb (by decide)
    | (exfalso; omega)
    | (exfalso; simp at hb; done)
    | (refine W.branch rfl (fun hb => ?_) (fun hb => ?_) <;> ((try simp only [decide_eq_true_eq, decide_eq_false_iff_not, Bool.not_eq_true', Bool.not_eq_false', Int.not_lt, Int.not_le, cond_true, cond_false, reduceCtorEq, Int.toNat_natCast, Int.reduceToNat, addI] at hb); (try replace hb := of_decide_eq_true hb); (try replace hb := of_decide_eq_false hb)))
    | (refine D.branch rfl (fun hb => ?_) (fun hb => ?_) <;> ((try simp only [decide_eq_true_eq, decide_eq_false_iff_not, Bool.not_eq_true', Bool.not_eq_false', Int.not_lt, Int.not_le, cond_true, cond_false, reduceCtorEq, Int.toNat_natCast, Int.reduceToNat, addI] at hb); (try replace hb := of_decide_eq_true hb); (try replace hb := of_decide_eq_false hb)))
    | (refine W.go TOK 118 hΓ 1000 rfl ?_; (conv => whnf); refine ⟨?_, ?_⟩)
    | (refine D.go TOK 118 hΓ 1000 rfl ?_; (conv => whnf); refine ⟨?_, ?_⟩)
    | (refine W.drawn rfl rfl ?_; refine D.run TOK 118 hΓ 1000 ?_; (conv => whnf); refine ⟨?_, ?_⟩)
  all_goals (repeat' apply And.intro)
  all_goals try (first
    | exact trivial
    | exact rfl
    | exact fun _ _ => A.sim.refl _
    | exact A.sim.refl _
    | exact Nat.le_refl _
    | omega
    | exact fun _ _ => trivial
    | exact fun i _ => shift_sim _ _ i
    | exact fun _ h => absurd h (Nat.not_lt_zero _)
    | exact fun i _ => isInt_byteAt _ i
    | (simp only [allP, List.nil_append, List.append_nil, List.cons_append, List.append_eq, and_true, true_and, inr_i64, inr_u8, inr_u64, min_i64, max_i64, min_u64, max_u64, min_u8, max_u8, A.purePL, A.pureP, A.sureP, A.surePL, Int.toNat_natCast, Int.reduceToNat, addI, cHi, cLo, hiN, loN, subO, addO, hasIdx, cond_true, cond_false]; first | done | omega | ((repeat' apply And.intro) <;> first | exact trivial | rfl | omega | decide))
    )
  refine W.seeA ([(17, .int .i64 (min d.f2.ps.length 64 : Nat))]) ([]) [] ?_
  (conv => whnf); refine ⟨?_, ?_⟩; focus ((conv => whnf); refine ⟨rfl, rfl, rfl, rfl, rfl, rfl, ?_, ?_⟩; iterate 2 (focus ((repeat' apply And.intro) <;> first | exact trivial | (intro i _; rw [Nat.zero_add]; exact A.sim.refl _) | with_reducible exact rfl | exact fun _ _ => A.sim.refl _ | exact A.sim.refl _ | exact rfl | exact Nat.le_refl _ | omega | exact fun i _ => shift_sim _ _ i | exact fun _ _ => trivial | exact fun _ h => absurd h (Nat.not_lt_zero _) | exact min64 _)))
  refine W.loopA (Nat) (fun i => i ≤ min d.f2.ps.length 64) (fun i => 64 - i) (fun i => [(6, .int .i64 (DK.lastB m i)), (18, .int .i64 i)]) (fun _ => []) [] (0) (Nat.zero_le _) ?_
  (conv => whnf); refine ⟨?_, ?_⟩; focus ((conv => whnf); refine ⟨rfl, rfl, rfl, rfl, rfl, rfl, ?_, ?_⟩; iterate 2 (focus ((repeat' apply And.intro) <;> first | exact trivial | (intro i _; rw [Nat.zero_add]; exact A.sim.refl _) | with_reducible exact rfl | exact fun _ _ => A.sim.refl _ | exact A.sim.refl _ | exact rfl | exact Nat.le_refl _ | omega | exact fun i _ => shift_sim _ _ i | exact fun _ _ => trivial | exact fun _ h => absurd h (Nat.not_lt_zero _))))
  rintro i hi ih
  have hlast := DK.lastB_le m i
  have hm0 := mask_bit m i hm
  by_cases hi2 : i < min d.f2.ps.length 64
  · by_cases hbit : m.testBit i = true
    · rw [if_pos hbit] at hm0
      have e : DK.lastB m (i + 1) = i := by show (if m.testBit i = true then (i : Int) else DK.lastB m i) = i; rw [if_pos hbit]
      repeat' first
        | assumption
        | exact Bool.noConfusion hb
        | exact absurd hb (by decide)
        | (exfalso; omega)
        | (exfalso; simp at hb; done)
        | exact absurd (hm0.symm.trans hb) (by decide)
        | exact absurd hm0 hb
        | exact absurd hb hm1
        | (exfalso; revert hb; rw [hm0]; decide)
        | (refine W.toA (ih (i + 1) ?_ ?_) ?_; rotate_left 2; (conv => whnf); refine ⟨rfl, rfl, rfl, rfl, rfl, rfl, ?_, ?_⟩; iterate 2 (focus ((repeat' apply And.intro) <;> first | exact trivial | (intro i _; rw [Nat.zero_add]; exact A.sim.refl _) | with_reducible exact rfl | exact fun _ _ => A.sim.refl _ | exact A.sim.refl _ | exact rfl | exact Nat.le_refl _ | omega | exact fun i _ => shift_sim _ _ i | exact fun _ _ => trivial | exact fun _ h => absurd h (Nat.not_lt_zero _) | exact e.symm | exact e)))
        | (refine W.branch rfl (fun hb => ?_) (fun hb => ?_) <;> ((try simp only [decide_eq_true_eq, decide_eq_false_iff_not, Bool.not_eq_true', Bool.not_eq_false', Int.not_lt, Int.not_le, cond_true, cond_false, reduceCtorEq, Int.toNat_natCast, Int.reduceToNat, addI] at hb); (try replace hb := of_decide_eq_true hb); (try replace hb := of_decide_eq_false hb)))
        | (refine D.branch rfl (fun hb => ?_) (fun hb => ?_) <;> ((try simp only [decide_eq_true_eq, decide_eq_false_iff_not, Bool.not_eq_true', Bool.not_eq_false', Int.not_lt, Int.not_le, cond_true, cond_false, reduceCtorEq, Int.toNat_natCast, Int.reduceToNat, addI] at hb); (try replace hb := of_decide_eq_true hb); (try replace hb := of_decide_eq_false hb)))
        | (refine W.go TOK 118 hΓ 1000 rfl ?_; (conv => whnf); refine ⟨?_, ?_⟩)
        | (refine D.go TOK 118 hΓ 1000 rfl ?_; (conv => whnf); refine ⟨?_, ?_⟩)
        | (refine W.drawn rfl rfl ?_; refine D.run TOK 118 hΓ 1000 ?_; (conv => whnf); refine ⟨?_, ?_⟩)
      all_goals (repeat' apply And.intro)
      all_goals try (first
        | exact trivial
        | exact rfl
        | exact fun _ _ => A.sim.refl _
        | exact A.sim.refl _
        | exact Nat.le_refl _
        | omega
        | exact fun _ _ => trivial
        | exact fun i _ => shift_sim _ _ i
        | exact fun _ h => absurd h (Nat.not_lt_zero _)
        | exact fun i _ => isInt_byteAt _ i
        | (simp only [allP, List.nil_append, List.append_nil, List.cons_append, List.append_eq, and_true, true_and, inr_i64, inr_u8, inr_u64, min_i64, max_i64, min_u64, max_u64, min_u8, max_u8, A.purePL, A.pureP, A.sureP, A.surePL, Int.toNat_natCast, Int.reduceToNat, addI, cHi, cLo, hiN, loN, subO, addO, hasIdx, cond_true, cond_false]; first | done | omega | ((repeat' apply And.intro) <;> first | exact trivial | rfl | omega | decide))
        )
    · rw [if_neg hbit] at hm0
      have e : DK.lastB m (i + 1) = DK.lastB m i := by show (if m.testBit i = true then (i : Int) else DK.lastB m i) = _; rw [if_neg hbit]
      repeat' first
        | assumption
        | exact Bool.noConfusion hb
        | exact absurd hb (by decide)
        | (exfalso; omega)
        | (exfalso; simp at hb; done)
        | exact absurd (hm0.symm.trans hb) (by decide)
        | exact absurd hm0 hb
        | exact absurd hb hm1
        | (exfalso; revert hb; rw [hm0]; decide)
        | (refine W.toA (ih (i + 1) ?_ ?_) ?_; rotate_left 2; (conv => whnf); refine ⟨rfl, rfl, rfl, rfl, rfl, rfl, ?_, ?_⟩; iterate 2 (focus ((repeat' apply And.intro) <;> first | exact trivial | (intro i _; rw [Nat.zero_add]; exact A.sim.refl _) | with_reducible exact rfl | exact fun _ _ => A.sim.refl _ | exact A.sim.refl _ | exact rfl | exact Nat.le_refl _ | omega | exact fun i _ => shift_sim _ _ i | exact fun _ _ => trivial | exact fun _ h => absurd h (Nat.not_lt_zero _) | exact e.symm | exact e)))
        | (refine W.branch rfl (fun hb => ?_) (fun hb => ?_) <;> ((try simp only [decide_eq_true_eq, decide_eq_false_iff_not, Bool.not_eq_true', Bool.not_eq_false', Int.not_lt, Int.not_le, cond_true, cond_false, reduceCtorEq, Int.toNat_natCast, Int.reduceToNat, addI] at hb); (try replace hb := of_decide_eq_true hb); (try replace hb := of_decide_eq_false hb)))
        | (refine D.branch rfl (fun hb => ?_) (fun hb => ?_) <;> ((try simp only [decide_eq_true_eq, decide_eq_false_iff_not, Bool.not_eq_true', Bool.not_eq_false', Int.not_lt, Int.not_le, cond_true, cond_false, reduceCtorEq, Int.toNat_natCast, Int.reduceToNat, addI] at hb); (try replace hb := of_decide_eq_true hb); (try replace hb := of_decide_eq_false hb)))
        | (refine W.go TOK 118 hΓ 1000 rfl ?_; (conv => whnf); refine ⟨?_, ?_⟩)
        | (refine D.go TOK 118 hΓ 1000 rfl ?_; (conv => whnf); refine ⟨?_, ?_⟩)
        | (refine W.drawn rfl rfl ?_; refine D.run TOK 118 hΓ 1000 ?_; (conv => whnf); refine ⟨?_, ?_⟩)
      all_goals (repeat' apply And.intro)
      all_goals try (first
        | exact trivial
        | exact rfl
        | exact fun _ _ => A.sim.refl _
        | exact A.sim.refl _
        | exact Nat.le_refl _
        | omega
        | exact fun _ _ => trivial
        | exact fun i _ => shift_sim _ _ i
        | exact fun _ h => absurd h (Nat.not_lt_zero _)
        | exact fun i _ => isInt_byteAt _ i
        | (simp only [allP, List.nil_append, List.append_nil, List.cons_append, List.append_eq, and_true, true_and, inr_i64, inr_u8, inr_u64, min_i64, max_i64, min_u64, max_u64, min_u8, max_u8, A.purePL, A.pureP, A.sureP, A.surePL, Int.toNat_natCast, Int.reduceToNat, addI, cHi, cLo, hiN, loN, subO, addO, hasIdx, cond_true, cond_false]; first | done | omega | ((repeat' apply And.intro) <;> first | exact trivial | rfl | omega | decide))
        )
  have hie : i = min d.f2.ps.length 64 := by omega
  subst hie
  clear ih hm0
  have hl0 : DK.lastB m (min d.f2.ps.length 64) = DK.lastOf m d.f2 := rfl
  rw [hl0] at hlast ⊢
  obtain ⟨c, hc⟩ : ∃ c : Nat, DK.lastOf m d.f2 = (c : Int) - 1 := ⟨(DK.lastOf m d.f2 + 1).toNat, by omega⟩
  have hcl : c ≤ d.f2.ps.length := by omega
  have hc1 : (DK.lastOf m d.f2 + 1).toNat = c := by omega
  have hcr : DK.crashF m t d.f2 = ⟨d.f2.s ++ DK.lefts m t (DK.lastOf m d.f2) d.f2.ps c, []⟩ := by rw [DK.crashF, hc1]
  rw [hcr, hc]
  repeat' first
    | assumption
    | exact Bool.noConfusion hb
    | exact absurd hb (by decide)
    | (exfalso; omega)
    | (exfalso; simp at hb; done)
    | (refine W.branch rfl (fun hb => ?_) (fun hb => ?_) <;> ((try simp only [decide_eq_true_eq, decide_eq_false_iff_not, Bool.not_eq_true', Bool.not_eq_false', Int.not_lt, Int.not_le, cond_true, cond_false, reduceCtorEq, Int.toNat_natCast, Int.reduceToNat, addI] at hb); (try replace hb := of_decide_eq_true hb); (try replace hb := of_decide_eq_false hb)))
    | (refine D.branch rfl (fun hb => ?_) (fun hb => ?_) <;> ((try simp only [decide_eq_true_eq, decide_eq_false_iff_not, Bool.not_eq_true', Bool.not_eq_false', Int.not_lt, Int.not_le, cond_true, cond_false, reduceCtorEq, Int.toNat_natCast, Int.reduceToNat, addI] at hb); (try replace hb := of_decide_eq_true hb); (try replace hb := of_decide_eq_false hb)))
    | ((first | (refine D.callA (clone_does d.f2.s.length (byteAt d.f2.b) (by omega)) rfl rfl rfl rfl hΓ rfl ?_; (conv => whnf); refine ⟨rfl, rfl, rfl, ?_, ?_, ?_, ?_⟩) | (refine W.callA (clone_does d.f2.s.length (byteAt d.f2.b) (by omega)) rfl rfl rfl rfl hΓ rfl ?_; (conv => whnf); refine ⟨rfl, rfl, ?_, ?_, ?_, ?_⟩)); iterate 3 (focus ((repeat' apply And.intro) <;> first | exact trivial | (intro i _; rw [Nat.zero_add]; exact A.sim.refl _) | with_reducible exact rfl | exact fun _ _ => A.sim.refl _ | exact A.sim.refl _ | exact rfl | exact Nat.le_refl _ | omega | exact fun i _ => shift_sim _ _ i | exact fun _ _ => trivial | exact fun _ h => absurd h (Nat.not_lt_zero _) | (simp only [addO, subO, hiN, loN, addI, Int.toNat_natCast]; omega))); (conv => whnf))
    | (refine W.go TOK 118 hΓ 1000 rfl ?_; (conv => whnf); refine ⟨?_, ?_⟩)
    | (refine D.go TOK 118 hΓ 1000 rfl ?_; (conv => whnf); refine ⟨?_, ?_⟩)
    | (refine W.drawn rfl rfl ?_; refine D.run TOK 118 hΓ 1000 ?_; (conv => whnf); refine ⟨?_, ?_⟩)
  all_goals (repeat' apply And.intro)
  all_goals try (first
    | exact trivial
    | exact rfl
    | exact fun _ _ => A.sim.refl _
    | exact A.sim.refl _
    | exact Nat.le_refl _
    | omega
    | exact fun _ _ => trivial
    | exact fun i _ => shift_sim _ _ i
    | exact fun _ h => absurd h (Nat.not_lt_zero _)
    | exact fun i _ => isInt_byteAt _ i
    | (simp only [allP, List.nil_append, List.append_nil, List.cons_append, List.append_eq, and_true, true_and, inr_i64, inr_u8, inr_u64, min_i64, max_i64, min_u64, max_u64, min_u8, max_u8, A.purePL, A.pureP, A.sureP, A.surePL, Int.toNat_natCast, Int.reduceToNat, addI, cHi, cLo, hiN, loN, subO, addO, hasIdx, cond_true, cond_false]; first | done | omega | ((repeat' apply And.intro) <;> first | exact trivial | rfl | omega | decide))
    )
  refine W.seeA ([(45, .int .i64 (c : Nat)), (44, .own 1 1006 0 c)]) ([]) [] ?_
  (conv => whnf); refine ⟨?_, ?_⟩; focus ((conv => whnf); refine ⟨rfl, rfl, rfl, rfl, rfl, rfl, ?_, ?_⟩; iterate 2 (focus ((repeat' apply And.intro) <;> first | exact trivial | (intro i _; rw [Nat.zero_add]; exact A.sim.refl _) | with_reducible exact rfl | exact fun _ _ => A.sim.refl _ | exact A.sim.refl _ | exact rfl | exact Nat.le_refl _ | omega | exact fun i _ => shift_sim _ _ i | exact fun _ _ => trivial | exact fun _ h => absurd h (Nat.not_lt_zero _) | (simp only [addO, subO, hiN, loN, addI]; omega) | (show ((c : Int) - 1 + 1).toNat = c; omega) | (show (((c : Int) - 1 + 1).toNat : Int) = c; omega))))
  refine W.loopA (Nat) (fun i => i ≤ c) (fun i => c - i) (fun i => [(8, .own 1 700 0 (d.f2.s ++ DK.lefts m t ((c : Int) - 1) d.f2.ps i).length), (46, .int .i64 i)]) (fun i => [(700, some (.arr 1 (d.f2.s ++ DK.lefts m t ((c : Int) - 1) d.f2.ps i).length (byteAt (d.f2.s ++ DK.lefts m t ((c : Int) - 1) d.f2.ps i))))]) [] (0) (Nat.zero_le _) ?_
  (conv => whnf); refine ⟨?_, ?_⟩; focus ((conv => whnf); refine ⟨rfl, rfl, rfl, rfl, rfl, rfl, ?_, ?_⟩; iterate 2 (focus ((repeat' apply And.intro) <;> first | exact trivial | (intro i _; rw [Nat.zero_add]; exact A.sim.refl _) | with_reducible exact rfl | exact fun _ _ => A.sim.refl _ | exact A.sim.refl _ | exact rfl | exact Nat.le_refl _ | omega | exact fun i _ => shift_sim _ _ i | exact fun _ _ => trivial | exact fun _ h => absurd h (Nat.not_lt_zero _) | exact (congrArg List.length (List.append_nil d.f2.s)).symm | exact Nat.le_of_eq (congrArg List.length (List.append_nil d.f2.s)) | exact sure_sim d.f2 m t ((c : Int) - 1))))
  rintro i hi ih
  by_cases hic : i < c
  · have hip : i < d.f2.ps.length := by omega
    have hat := DK.begins_le d.f2 hip
    have hsu := DK.lefts_succ m t ((c : Int) - 1) d.f2.ps i
    have hll := DK.lefts_len m t ((c : Int) - 1) d.f2.ps i (by omega)
    have hfl := DK.flat_le (ps := d.f2.ps) i
    have hbl : d.f2.b.length = d.f2.s.length + d.f2.ps.flatten.length := by rw [DK.F.b, List.length_append]
    have hm0 := mask_bit m i hm
    obtain ⟨p, hp⟩ : ∃ p, p = d.f2.ps.getD i [] := ⟨_, rfl⟩
    rw [← hp] at hat hsu
    have hol : (d.f2.s ++ DK.lefts m t ((c : Int) - 1) d.f2.ps i).length ≤ 1000000000 := by rw [List.length_append]; omega
    by_cases hn : i + 1 < d.f2.ps.length
    · have hpt := DK.part_in d.f2 hn
      have hnx := DK.begins_next d.f2 hn
      have hat2 := DK.begins_le d.f2 hn
      rw [← hp] at hpt hnx
      by_cases hbit : m.testBit i = true
      · rw [if_pos hbit] at hm0
        by_cases ht : (i : Int) = (c : Int) - 1 ∧ 0 ≤ t
        · have hle : DK.left m t ((c : Int) - 1) i p = p.take t.toNat := by unfold DK.left; rw [if_neg (by simp [hbit]), if_pos ht]
          rw [hle] at hsu
          repeat' first
            | assumption
            | exact Bool.noConfusion hb
            | exact absurd hb (by decide)
            | (exfalso; omega)
            | (exfalso; simp at hb; done)
            | exact absurd (hm0.symm.trans hb) (by decide)
            | exact absurd hm0 hb
            | exact absurd hb hm1
            | (exfalso; revert hb; rw [hm0]; decide)
            | (refine W.branch rfl (fun hb => ?_) (fun hb => ?_) <;> ((try simp only [decide_eq_true_eq, decide_eq_false_iff_not, Bool.not_eq_true', Bool.not_eq_false', Int.not_lt, Int.not_le, cond_true, cond_false, reduceCtorEq, Int.toNat_natCast, Int.reduceToNat, addI] at hb); (try replace hb := of_decide_eq_true hb); (try replace hb := of_decide_eq_false hb)))
            | (refine D.branch rfl (fun hb => ?_) (fun hb => ?_) <;> ((try simp only [decide_eq_true_eq, decide_eq_false_iff_not, Bool.not_eq_true', Bool.not_eq_false', Int.not_lt, Int.not_le, cond_true, cond_false, reduceCtorEq, Int.toNat_natCast, Int.reduceToNat, addI] at hb); (try replace hb := of_decide_eq_true hb); (try replace hb := of_decide_eq_false hb)))
            | (refine W.go Ts14OK 118 hΓ 1000 rfl ?_; (conv => whnf); refine ⟨?_, ?_⟩)
            | (refine D.go Ts14OK 118 hΓ 1000 rfl ?_; (conv => whnf); refine ⟨?_, ?_⟩)
            | (refine W.drawn rfl rfl ?_; refine D.run Ts14OK 118 hΓ 1000 ?_; (conv => whnf); refine ⟨?_, ?_⟩)
          all_goals (repeat' apply And.intro)
          all_goals try (first
            | exact trivial
            | exact rfl
            | exact fun _ _ => A.sim.refl _
            | exact A.sim.refl _
            | exact Nat.le_refl _
            | omega
            | exact fun _ _ => trivial
            | exact fun i _ => shift_sim _ _ i
            | exact fun _ h => absurd h (Nat.not_lt_zero _)
            | exact fun i _ => isInt_byteAt _ i
            | (simp only [allP, List.nil_append, List.append_nil, List.cons_append, List.append_eq, and_true, true_and, inr_i64, inr_u8, inr_u64, min_i64, max_i64, min_u64, max_u64, min_u8, max_u8, A.purePL, A.pureP, A.sureP, A.surePL, Int.toNat_natCast, Int.reduceToNat, addI, cHi, cLo, hiN, loN, subO, addO, hasIdx, cond_true, cond_false]; first | done | omega | ((repeat' apply And.intro) <;> first | exact trivial | rfl | omega | decide))
            | (show ((d.f2.begins.getD (i + 1) 0 : Nat) : Int) ≤ ((d.f2.b.length : Nat) : Int); omega)
            | (show ((d.f2.begins.getD i 0 : Nat) : Int) ≤ ((d.f2.begins.getD (i + 1) 0 : Nat) : Int); omega)
            | (show ((d.f2.begins.getD i 0 : Nat) : Int) ≤ ((d.f2.b.length : Nat) : Int); omega)
            )
          refine W.seeA ([(11, .own 1 1005 (d.f2.begins.getD i 0) p.length)]) ([]) [] ?_
          (conv => whnf); refine ⟨?_, ?_⟩; focus ((conv => whnf); refine ⟨rfl, rfl, rfl, rfl, rfl, rfl, ?_, ?_⟩; iterate 2 (focus ((repeat' apply And.intro) <;> first | exact trivial | (intro i _; rw [Nat.zero_add]; exact A.sim.refl _) | with_reducible exact rfl | exact fun _ _ => A.sim.refl _ | exact A.sim.refl _ | exact rfl | exact Nat.le_refl _ | omega | exact fun i _ => shift_sim _ _ i | exact fun _ _ => trivial | exact fun _ h => absurd h (Nat.not_lt_zero _) | (show d.f2.begins.getD (i + 1) 0 - d.f2.begins.getD i 0 = p.length; omega) | (show d.f2.b.length - d.f2.begins.getD i 0 = p.length; omega))))
          have hpd : (d.f2.b.drop (d.f2.begins.getD i 0)).take p.length = p := by
            rw [hnx, List.drop_take, Nat.add_sub_cancel_left] at hpt
            exact hpt
          have hmt : (if (p.length : Int) < t then (p.length : Int) else t).toNat = (p.take t.toNat).length := by rw [List.length_take]; split <;> omega
          have hpd2 : (d.f2.b.drop (d.f2.begins.getD i 0)).take (p.take t.toNat).length = p.take t.toNat := by rw [List.length_take, ← List.take_take, hpd]
          have hfin : (d.f2.s ++ DK.lefts m t ((c : Int) - 1) d.f2.ps (i + 1)) = (d.f2.s ++ DK.lefts m t ((c : Int) - 1) d.f2.ps i) ++ p.take t.toNat := by rw [hsu, List.append_assoc]
          have hlt : (p.take t.toNat).length ≤ p.length := by rw [List.length_take]; omega
          repeat' first
            | assumption
            | exact Bool.noConfusion hb
            | exact absurd hb (by decide)
            | (exfalso; omega)
            | (exfalso; simp at hb; done)
            | exact absurd (hm0.symm.trans hb) (by decide)
            | exact absurd hm0 hb
            | exact absurd hb hm1
            | (exfalso; revert hb; rw [hm0]; decide)
            | (refine W.branch rfl (fun hb => ?_) (fun hb => ?_) <;> ((try simp only [decide_eq_true_eq, decide_eq_false_iff_not, Bool.not_eq_true', Bool.not_eq_false', Int.not_lt, Int.not_le, cond_true, cond_false, reduceCtorEq, Int.toNat_natCast, Int.reduceToNat, addI] at hb); (try replace hb := of_decide_eq_true hb); (try replace hb := of_decide_eq_false hb)))
            | (refine D.branch rfl (fun hb => ?_) (fun hb => ?_) <;> ((try simp only [decide_eq_true_eq, decide_eq_false_iff_not, Bool.not_eq_true', Bool.not_eq_false', Int.not_lt, Int.not_le, cond_true, cond_false, reduceCtorEq, Int.toNat_natCast, Int.reduceToNat, addI] at hb); (try replace hb := of_decide_eq_true hb); (try replace hb := of_decide_eq_false hb)))
            | (refine W.go Ts18OK 118 hΓ 1000 rfl ?_; (conv => whnf); refine ⟨?_, ?_⟩)
            | (refine D.go Ts18OK 118 hΓ 1000 rfl ?_; (conv => whnf); refine ⟨?_, ?_⟩)
            | (refine W.drawn rfl rfl ?_; refine D.run Ts18OK 118 hΓ 1000 ?_; (conv => whnf); refine ⟨?_, ?_⟩)
          all_goals (repeat' apply And.intro)
          all_goals try (first
            | exact trivial
            | exact rfl
            | exact fun _ _ => A.sim.refl _
            | exact A.sim.refl _
            | exact Nat.le_refl _
            | omega
            | exact fun _ _ => trivial
            | exact fun i _ => shift_sim _ _ i
            | exact fun _ h => absurd h (Nat.not_lt_zero _)
            | exact fun i _ => isInt_byteAt _ i
            | (split <;> omega)
            | (simp only [allP, List.nil_append, List.append_nil, List.cons_append, List.append_eq, and_true, true_and, inr_i64, inr_u8, inr_u64, min_i64, max_i64, min_u64, max_u64, min_u8, max_u8, A.purePL, A.pureP, A.sureP, A.surePL, Int.toNat_natCast, Int.reduceToNat, addI, cHi, cLo, hiN, loN, subO, addO, hasIdx, cond_true, cond_false]; first | done | omega | ((repeat' apply And.intro) <;> first | exact trivial | rfl | omega | decide))
            )
          refine W.seeA ([(11, .own 1 1005 (d.f2.begins.getD i 0) (p.take t.toNat).length)]) ([]) [] ?_
          (conv => whnf); refine ⟨?_, ?_⟩; focus ((conv => whnf); refine ⟨rfl, rfl, rfl, rfl, rfl, rfl, ?_, ?_⟩; iterate 2 (focus ((repeat' apply And.intro) <;> first | exact trivial | (intro i _; rw [Nat.zero_add]; exact A.sim.refl _) | with_reducible exact rfl | exact fun _ _ => A.sim.refl _ | exact A.sim.refl _ | exact rfl | exact Nat.le_refl _ | omega | exact fun i _ => shift_sim _ _ i | exact fun _ _ => trivial | exact fun _ h => absurd h (Nat.not_lt_zero _) | exact hmt)))
          have hfl2 : (d.f2.s ++ DK.lefts m t ((c : Int) - 1) d.f2.ps (i + 1)).length = (d.f2.s ++ DK.lefts m t ((c : Int) - 1) d.f2.ps i).length + (p.take t.toNat).length := by rw [hfin, List.length_append]
          have hsim : ∀ j, j < (d.f2.s ++ DK.lefts m t ((c : Int) - 1) d.f2.ps (i + 1)).length → (catF (d.f2.s ++ DK.lefts m t ((c : Int) - 1) d.f2.ps i).length (byteAt (d.f2.s ++ DK.lefts m t ((c : Int) - 1) d.f2.ps i)) (shiftF (d.f2.begins.getD i 0) (byteAt d.f2.b)) j).sim (byteAt (d.f2.s ++ DK.lefts m t ((c : Int) - 1) d.f2.ps (i + 1)) j) := by
            rw [hfin]
            exact cat_part rfl hpd2 (by rw [List.length_append]; exact Nat.le_refl _)
          repeat' first
            | assumption
            | exact Bool.noConfusion hb
            | exact absurd hb (by decide)
            | (exfalso; omega)
            | (exfalso; simp at hb; done)
            | exact absurd (hm0.symm.trans hb) (by decide)
            | exact absurd hm0 hb
            | exact absurd hb hm1
            | (exfalso; revert hb; rw [hm0]; decide)
            | (refine W.toA (ih (i + 1) ?_ ?_) ?_; rotate_left 2; (conv => whnf); refine ⟨rfl, rfl, rfl, rfl, rfl, rfl, ?_, ?_⟩; iterate 2 (focus ((repeat' apply And.intro) <;> first | exact trivial | (intro i _; rw [Nat.zero_add]; exact A.sim.refl _) | with_reducible exact rfl | exact fun _ _ => A.sim.refl _ | exact A.sim.refl _ | exact rfl | exact Nat.le_refl _ | omega | exact fun i _ => shift_sim _ _ i | exact fun _ _ => trivial | exact fun _ h => absurd h (Nat.not_lt_zero _) | exact hfl2 | exact hfl2.symm | exact Nat.le_of_eq hfl2 | exact hsim)))
            | (refine W.branch rfl (fun hb => ?_) (fun hb => ?_) <;> ((try simp only [decide_eq_true_eq, decide_eq_false_iff_not, Bool.not_eq_true', Bool.not_eq_false', Int.not_lt, Int.not_le, cond_true, cond_false, reduceCtorEq, Int.toNat_natCast, Int.reduceToNat, addI] at hb); (try replace hb := of_decide_eq_true hb); (try replace hb := of_decide_eq_false hb)))
            | (refine D.branch rfl (fun hb => ?_) (fun hb => ?_) <;> ((try simp only [decide_eq_true_eq, decide_eq_false_iff_not, Bool.not_eq_true', Bool.not_eq_false', Int.not_lt, Int.not_le, cond_true, cond_false, reduceCtorEq, Int.toNat_natCast, Int.reduceToNat, addI] at hb); (try replace hb := of_decide_eq_true hb); (try replace hb := of_decide_eq_false hb)))
            | (refine W.go TOK 118 hΓ 1000 rfl ?_; (conv => whnf); refine ⟨?_, ?_⟩)
            | (refine D.go TOK 118 hΓ 1000 rfl ?_; (conv => whnf); refine ⟨?_, ?_⟩)
            | (refine W.drawn rfl rfl ?_; refine D.run TOK 118 hΓ 1000 ?_; (conv => whnf); refine ⟨?_, ?_⟩)
          all_goals (repeat' apply And.intro)
          all_goals try (first
            | exact trivial
            | exact rfl
            | exact fun _ _ => A.sim.refl _
            | exact A.sim.refl _
            | exact Nat.le_refl _
            | omega
            | exact fun _ _ => trivial
            | exact fun i _ => shift_sim _ _ i
            | exact fun _ h => absurd h (Nat.not_lt_zero _)
            | exact fun i _ => isInt_byteAt _ i
            | (simp only [allP, List.nil_append, List.append_nil, List.cons_append, List.append_eq, and_true, true_and, inr_i64, inr_u8, inr_u64, min_i64, max_i64, min_u64, max_u64, min_u8, max_u8, A.purePL, A.pureP, A.sureP, A.surePL, Int.toNat_natCast, Int.reduceToNat, addI, cHi, cLo, hiN, loN, subO, addO, hasIdx, cond_true, cond_false]; first | done | omega | ((repeat' apply And.intro) <;> first | exact trivial | rfl | omega | decide))
            | (show (p.length : Int) * 1 ≤ 17592186044416; omega)
            | (rw [Int.toNat_natCast]; omega)
            )
        · have hle : DK.left m t ((c : Int) - 1) i p = p := by unfold DK.left; rw [if_neg (by simp [hbit]), if_neg ht]
          rw [hle] at hsu
          repeat' first
            | assumption
            | exact Bool.noConfusion hb
            | exact absurd hb (by decide)
            | (exfalso; omega)
            | (exfalso; simp at hb; done)
            | exact absurd (hm0.symm.trans hb) (by decide)
            | exact absurd hm0 hb
            | exact absurd hb hm1
            | (exfalso; revert hb; rw [hm0]; decide)
            | (refine W.branch rfl (fun hb => ?_) (fun hb => ?_) <;> ((try simp only [decide_eq_true_eq, decide_eq_false_iff_not, Bool.not_eq_true', Bool.not_eq_false', Int.not_lt, Int.not_le, cond_true, cond_false, reduceCtorEq, Int.toNat_natCast, Int.reduceToNat, addI] at hb); (try replace hb := of_decide_eq_true hb); (try replace hb := of_decide_eq_false hb)))
            | (refine D.branch rfl (fun hb => ?_) (fun hb => ?_) <;> ((try simp only [decide_eq_true_eq, decide_eq_false_iff_not, Bool.not_eq_true', Bool.not_eq_false', Int.not_lt, Int.not_le, cond_true, cond_false, reduceCtorEq, Int.toNat_natCast, Int.reduceToNat, addI] at hb); (try replace hb := of_decide_eq_true hb); (try replace hb := of_decide_eq_false hb)))
            | (refine W.go Ts14OK 118 hΓ 1000 rfl ?_; (conv => whnf); refine ⟨?_, ?_⟩)
            | (refine D.go Ts14OK 118 hΓ 1000 rfl ?_; (conv => whnf); refine ⟨?_, ?_⟩)
            | (refine W.drawn rfl rfl ?_; refine D.run Ts14OK 118 hΓ 1000 ?_; (conv => whnf); refine ⟨?_, ?_⟩)
          all_goals (repeat' apply And.intro)
          all_goals try (first
            | exact trivial
            | exact rfl
            | exact fun _ _ => A.sim.refl _
            | exact A.sim.refl _
            | exact Nat.le_refl _
            | omega
            | exact fun _ _ => trivial
            | exact fun i _ => shift_sim _ _ i
            | exact fun _ h => absurd h (Nat.not_lt_zero _)
            | exact fun i _ => isInt_byteAt _ i
            | (simp only [allP, List.nil_append, List.append_nil, List.cons_append, List.append_eq, and_true, true_and, inr_i64, inr_u8, inr_u64, min_i64, max_i64, min_u64, max_u64, min_u8, max_u8, A.purePL, A.pureP, A.sureP, A.surePL, Int.toNat_natCast, Int.reduceToNat, addI, cHi, cLo, hiN, loN, subO, addO, hasIdx, cond_true, cond_false]; first | done | omega | ((repeat' apply And.intro) <;> first | exact trivial | rfl | omega | decide))
            | (show ((d.f2.begins.getD (i + 1) 0 : Nat) : Int) ≤ ((d.f2.b.length : Nat) : Int); omega)
            | (show ((d.f2.begins.getD i 0 : Nat) : Int) ≤ ((d.f2.begins.getD (i + 1) 0 : Nat) : Int); omega)
            | (show ((d.f2.begins.getD i 0 : Nat) : Int) ≤ ((d.f2.b.length : Nat) : Int); omega)
            )
          refine W.seeA ([(11, .own 1 1005 (d.f2.begins.getD i 0) p.length)]) ([]) [] ?_
          (conv => whnf); refine ⟨?_, ?_⟩; focus ((conv => whnf); refine ⟨rfl, rfl, rfl, rfl, rfl, rfl, ?_, ?_⟩; iterate 2 (focus ((repeat' apply And.intro) <;> first | exact trivial | (intro i _; rw [Nat.zero_add]; exact A.sim.refl _) | with_reducible exact rfl | exact fun _ _ => A.sim.refl _ | exact A.sim.refl _ | exact rfl | exact Nat.le_refl _ | omega | exact fun i _ => shift_sim _ _ i | exact fun _ _ => trivial | exact fun _ h => absurd h (Nat.not_lt_zero _) | (show d.f2.begins.getD (i + 1) 0 - d.f2.begins.getD i 0 = p.length; omega) | (show d.f2.b.length - d.f2.begins.getD i 0 = p.length; omega))))
          have hpd : (d.f2.b.drop (d.f2.begins.getD i 0)).take p.length = p := by
            rw [hnx, List.drop_take, Nat.add_sub_cancel_left] at hpt
            exact hpt
          have hfin : (d.f2.s ++ DK.lefts m t ((c : Int) - 1) d.f2.ps (i + 1)) = (d.f2.s ++ DK.lefts m t ((c : Int) - 1) d.f2.ps i) ++ p := by rw [hsu, List.append_assoc]
          have hfl2 : (d.f2.s ++ DK.lefts m t ((c : Int) - 1) d.f2.ps (i + 1)).length = (d.f2.s ++ DK.lefts m t ((c : Int) - 1) d.f2.ps i).length + p.length := by rw [hfin, List.length_append]
          have hsim : ∀ j, j < (d.f2.s ++ DK.lefts m t ((c : Int) - 1) d.f2.ps (i + 1)).length → (catF (d.f2.s ++ DK.lefts m t ((c : Int) - 1) d.f2.ps i).length (byteAt (d.f2.s ++ DK.lefts m t ((c : Int) - 1) d.f2.ps i)) (shiftF (d.f2.begins.getD i 0) (byteAt d.f2.b)) j).sim (byteAt (d.f2.s ++ DK.lefts m t ((c : Int) - 1) d.f2.ps (i + 1)) j) := by
            rw [hfin]
            exact cat_part rfl hpd (by rw [List.length_append]; exact Nat.le_refl _)
          repeat' first
            | assumption
            | exact Bool.noConfusion hb
            | exact absurd hb (by decide)
            | (exfalso; omega)
            | (exfalso; simp at hb; done)
            | exact absurd (hm0.symm.trans hb) (by decide)
            | exact absurd hm0 hb
            | exact absurd hb hm1
            | (exfalso; revert hb; rw [hm0]; decide)
            | (refine W.toA (ih (i + 1) ?_ ?_) ?_; rotate_left 2; (conv => whnf); refine ⟨rfl, rfl, rfl, rfl, rfl, rfl, ?_, ?_⟩; iterate 2 (focus ((repeat' apply And.intro) <;> first | exact trivial | (intro i _; rw [Nat.zero_add]; exact A.sim.refl _) | with_reducible exact rfl | exact fun _ _ => A.sim.refl _ | exact A.sim.refl _ | exact rfl | exact Nat.le_refl _ | omega | exact fun i _ => shift_sim _ _ i | exact fun _ _ => trivial | exact fun _ h => absurd h (Nat.not_lt_zero _) | exact hfl2 | exact hfl2.symm | exact Nat.le_of_eq hfl2 | exact hsim)))
            | (refine W.branch rfl (fun hb => ?_) (fun hb => ?_) <;> ((try simp only [decide_eq_true_eq, decide_eq_false_iff_not, Bool.not_eq_true', Bool.not_eq_false', Int.not_lt, Int.not_le, cond_true, cond_false, reduceCtorEq, Int.toNat_natCast, Int.reduceToNat, addI] at hb); (try replace hb := of_decide_eq_true hb); (try replace hb := of_decide_eq_false hb)))
            | (refine D.branch rfl (fun hb => ?_) (fun hb => ?_) <;> ((try simp only [decide_eq_true_eq, decide_eq_false_iff_not, Bool.not_eq_true', Bool.not_eq_false', Int.not_lt, Int.not_le, cond_true, cond_false, reduceCtorEq, Int.toNat_natCast, Int.reduceToNat, addI] at hb); (try replace hb := of_decide_eq_true hb); (try replace hb := of_decide_eq_false hb)))
            | (refine W.go TOK 118 hΓ 1000 rfl ?_; (conv => whnf); refine ⟨?_, ?_⟩)
            | (refine D.go TOK 118 hΓ 1000 rfl ?_; (conv => whnf); refine ⟨?_, ?_⟩)
            | (refine W.drawn rfl rfl ?_; refine D.run TOK 118 hΓ 1000 ?_; (conv => whnf); refine ⟨?_, ?_⟩)
          all_goals (repeat' apply And.intro)
          all_goals try (first
            | exact trivial
            | exact rfl
            | exact fun _ _ => A.sim.refl _
            | exact A.sim.refl _
            | exact Nat.le_refl _
            | omega
            | exact fun _ _ => trivial
            | exact fun i _ => shift_sim _ _ i
            | exact fun _ h => absurd h (Nat.not_lt_zero _)
            | exact fun i _ => isInt_byteAt _ i
            | (simp only [allP, List.nil_append, List.append_nil, List.cons_append, List.append_eq, and_true, true_and, inr_i64, inr_u8, inr_u64, min_i64, max_i64, min_u64, max_u64, min_u8, max_u8, A.purePL, A.pureP, A.sureP, A.surePL, Int.toNat_natCast, Int.reduceToNat, addI, cHi, cLo, hiN, loN, subO, addO, hasIdx, cond_true, cond_false]; first | done | omega | ((repeat' apply And.intro) <;> first | exact trivial | rfl | omega | decide))
            | (show (p.length : Int) * 1 ≤ 17592186044416; omega)
            | (rw [Int.toNat_natCast]; omega)
            )
      · rw [if_neg hbit] at hm0
        have hle : DK.left m t ((c : Int) - 1) i p = List.replicate p.length 0 := by unfold DK.left; rw [if_pos (by simpa using hbit)]
        rw [hle] at hsu
        repeat' first
          | assumption
          | exact Bool.noConfusion hb
          | exact absurd hb (by decide)
          | (exfalso; omega)
          | (exfalso; simp at hb; done)
          | exact absurd (hm0.symm.trans hb) (by decide)
          | exact absurd hm0 hb
          | exact absurd hb hm1
          | (exfalso; revert hb; rw [hm0]; decide)
          | (refine W.branch rfl (fun hb => ?_) (fun hb => ?_) <;> ((try simp only [decide_eq_true_eq, decide_eq_false_iff_not, Bool.not_eq_true', Bool.not_eq_false', Int.not_lt, Int.not_le, cond_true, cond_false, reduceCtorEq, Int.toNat_natCast, Int.reduceToNat, addI] at hb); (try replace hb := of_decide_eq_true hb); (try replace hb := of_decide_eq_false hb)))
          | (refine D.branch rfl (fun hb => ?_) (fun hb => ?_) <;> ((try simp only [decide_eq_true_eq, decide_eq_false_iff_not, Bool.not_eq_true', Bool.not_eq_false', Int.not_lt, Int.not_le, cond_true, cond_false, reduceCtorEq, Int.toNat_natCast, Int.reduceToNat, addI] at hb); (try replace hb := of_decide_eq_true hb); (try replace hb := of_decide_eq_false hb)))
          | (refine W.go Ts14OK 118 hΓ 1000 rfl ?_; (conv => whnf); refine ⟨?_, ?_⟩)
          | (refine D.go Ts14OK 118 hΓ 1000 rfl ?_; (conv => whnf); refine ⟨?_, ?_⟩)
          | (refine W.drawn rfl rfl ?_; refine D.run Ts14OK 118 hΓ 1000 ?_; (conv => whnf); refine ⟨?_, ?_⟩)
        all_goals (repeat' apply And.intro)
        all_goals try (first
          | exact trivial
          | exact rfl
          | exact fun _ _ => A.sim.refl _
          | exact A.sim.refl _
          | exact Nat.le_refl _
          | omega
          | exact fun _ _ => trivial
          | exact fun i _ => shift_sim _ _ i
          | exact fun _ h => absurd h (Nat.not_lt_zero _)
          | exact fun i _ => isInt_byteAt _ i
          | (simp only [allP, List.nil_append, List.append_nil, List.cons_append, List.append_eq, and_true, true_and, inr_i64, inr_u8, inr_u64, min_i64, max_i64, min_u64, max_u64, min_u8, max_u8, A.purePL, A.pureP, A.sureP, A.surePL, Int.toNat_natCast, Int.reduceToNat, addI, cHi, cLo, hiN, loN, subO, addO, hasIdx, cond_true, cond_false]; first | done | omega | ((repeat' apply And.intro) <;> first | exact trivial | rfl | omega | decide))
          | (show ((d.f2.begins.getD (i + 1) 0 : Nat) : Int) ≤ ((d.f2.b.length : Nat) : Int); omega)
          | (show ((d.f2.begins.getD i 0 : Nat) : Int) ≤ ((d.f2.begins.getD (i + 1) 0 : Nat) : Int); omega)
          | (show ((d.f2.begins.getD i 0 : Nat) : Int) ≤ ((d.f2.b.length : Nat) : Int); omega)
          )
        refine W.seeA ([(11, .own 1 1005 (d.f2.begins.getD i 0) p.length)]) ([]) [] ?_
        (conv => whnf); refine ⟨?_, ?_⟩; focus ((conv => whnf); refine ⟨rfl, rfl, rfl, rfl, rfl, rfl, ?_, ?_⟩; iterate 2 (focus ((repeat' apply And.intro) <;> first | exact trivial | (intro i _; rw [Nat.zero_add]; exact A.sim.refl _) | with_reducible exact rfl | exact fun _ _ => A.sim.refl _ | exact A.sim.refl _ | exact rfl | exact Nat.le_refl _ | omega | exact fun i _ => shift_sim _ _ i | exact fun _ _ => trivial | exact fun _ h => absurd h (Nat.not_lt_zero _) | (show d.f2.begins.getD (i + 1) 0 - d.f2.begins.getD i 0 = p.length; omega) | (show d.f2.b.length - d.f2.begins.getD i 0 = p.length; omega))))
        have hpd : (d.f2.b.drop (d.f2.begins.getD i 0)).take p.length = p := by
          rw [hnx, List.drop_take, Nat.add_sub_cancel_left] at hpt
          exact hpt
        have hfin : (d.f2.s ++ DK.lefts m t ((c : Int) - 1) d.f2.ps (i + 1)) = (d.f2.s ++ DK.lefts m t ((c : Int) - 1) d.f2.ps i) ++ List.replicate p.length 0 := by rw [hsu, List.append_assoc]
        have hfl2 : (d.f2.s ++ DK.lefts m t ((c : Int) - 1) d.f2.ps (i + 1)).length = (d.f2.s ++ DK.lefts m t ((c : Int) - 1) d.f2.ps i).length + p.length := by rw [hfin, List.length_append, List.length_replicate]
        have hsim : ∀ j, j < (d.f2.s ++ DK.lefts m t ((c : Int) - 1) d.f2.ps (i + 1)).length → (catF (d.f2.s ++ DK.lefts m t ((c : Int) - 1) d.f2.ps i).length (byteAt (d.f2.s ++ DK.lefts m t ((c : Int) - 1) d.f2.ps i)) (fun _ => A.int .u8 0) j).sim (byteAt (d.f2.s ++ DK.lefts m t ((c : Int) - 1) d.f2.ps (i + 1)) j) := by
          rw [hfin]
          exact cat_zero rfl (by rw [List.length_append, List.length_replicate]; exact Nat.le_refl _)
        repeat' first
          | assumption
          | exact Bool.noConfusion hb
          | exact absurd hb (by decide)
          | (exfalso; omega)
          | (exfalso; simp at hb; done)
          | exact absurd (hm0.symm.trans hb) (by decide)
          | exact absurd hm0 hb
          | exact absurd hb hm1
          | (exfalso; revert hb; rw [hm0]; decide)
          | (refine W.toA (ih (i + 1) ?_ ?_) ?_; rotate_left 2; (conv => whnf); refine ⟨rfl, rfl, rfl, rfl, rfl, rfl, ?_, ?_⟩; iterate 2 (focus ((repeat' apply And.intro) <;> first | exact trivial | (intro i _; rw [Nat.zero_add]; exact A.sim.refl _) | with_reducible exact rfl | exact fun _ _ => A.sim.refl _ | exact A.sim.refl _ | exact rfl | exact Nat.le_refl _ | omega | exact fun i _ => shift_sim _ _ i | exact fun _ _ => trivial | exact fun _ h => absurd h (Nat.not_lt_zero _) | exact hfl2 | exact hfl2.symm | exact Nat.le_of_eq hfl2 | exact hsim)))
          | (refine W.branch rfl (fun hb => ?_) (fun hb => ?_) <;> ((try simp only [decide_eq_true_eq, decide_eq_false_iff_not, Bool.not_eq_true', Bool.not_eq_false', Int.not_lt, Int.not_le, cond_true, cond_false, reduceCtorEq, Int.toNat_natCast, Int.reduceToNat, addI] at hb); (try replace hb := of_decide_eq_true hb); (try replace hb := of_decide_eq_false hb)))
          | (refine D.branch rfl (fun hb => ?_) (fun hb => ?_) <;> ((try simp only [decide_eq_true_eq, decide_eq_false_iff_not, Bool.not_eq_true', Bool.not_eq_false', Int.not_lt, Int.not_le, cond_true, cond_false, reduceCtorEq, Int.toNat_natCast, Int.reduceToNat, addI] at hb); (try replace hb := of_decide_eq_true hb); (try replace hb := of_decide_eq_false hb)))
          | (refine W.go TOK 118 hΓ 1000 rfl ?_; (conv => whnf); refine ⟨?_, ?_⟩)
          | (refine D.go TOK 118 hΓ 1000 rfl ?_; (conv => whnf); refine ⟨?_, ?_⟩)
          | (refine W.drawn rfl rfl ?_; refine D.run TOK 118 hΓ 1000 ?_; (conv => whnf); refine ⟨?_, ?_⟩)
        all_goals (repeat' apply And.intro)
        all_goals try (first
          | exact trivial
          | exact rfl
          | exact fun _ _ => A.sim.refl _
          | exact A.sim.refl _
          | exact Nat.le_refl _
          | omega
          | exact fun _ _ => trivial
          | exact fun i _ => shift_sim _ _ i
          | exact fun _ h => absurd h (Nat.not_lt_zero _)
          | exact fun i _ => isInt_byteAt _ i
          | (simp only [allP, List.nil_append, List.append_nil, List.cons_append, List.append_eq, and_true, true_and, inr_i64, inr_u8, inr_u64, min_i64, max_i64, min_u64, max_u64, min_u8, max_u8, A.purePL, A.pureP, A.sureP, A.surePL, Int.toNat_natCast, Int.reduceToNat, addI, cHi, cLo, hiN, loN, subO, addO, hasIdx, cond_true, cond_false]; first | done | omega | ((repeat' apply And.intro) <;> first | exact trivial | rfl | omega | decide))
          | (show (p.length : Int) * 1 ≤ 17592186044416; omega)
          | (rw [Int.toNat_natCast]; omega)
          )
    · have hpt := DK.part_last d.f2 (i := i) (by omega)
      have hnx := DK.begins_end d.f2 (i := i) (by omega)
      rw [← hp] at hpt hnx
      by_cases hbit : m.testBit i = true
      · rw [if_pos hbit] at hm0
        by_cases ht : (i : Int) = (c : Int) - 1 ∧ 0 ≤ t
        · have hle : DK.left m t ((c : Int) - 1) i p = p.take t.toNat := by unfold DK.left; rw [if_neg (by simp [hbit]), if_pos ht]
          rw [hle] at hsu
          repeat' first
            | assumption
            | exact Bool.noConfusion hb
            | exact absurd hb (by decide)
            | (exfalso; omega)
            | (exfalso; simp at hb; done)
            | exact absurd (hm0.symm.trans hb) (by decide)
            | exact absurd hm0 hb
            | exact absurd hb hm1
            | (exfalso; revert hb; rw [hm0]; decide)
            | (refine W.branch rfl (fun hb => ?_) (fun hb => ?_) <;> ((try simp only [decide_eq_true_eq, decide_eq_false_iff_not, Bool.not_eq_true', Bool.not_eq_false', Int.not_lt, Int.not_le, cond_true, cond_false, reduceCtorEq, Int.toNat_natCast, Int.reduceToNat, addI] at hb); (try replace hb := of_decide_eq_true hb); (try replace hb := of_decide_eq_false hb)))
            | (refine D.branch rfl (fun hb => ?_) (fun hb => ?_) <;> ((try simp only [decide_eq_true_eq, decide_eq_false_iff_not, Bool.not_eq_true', Bool.not_eq_false', Int.not_lt, Int.not_le, cond_true, cond_false, reduceCtorEq, Int.toNat_natCast, Int.reduceToNat, addI] at hb); (try replace hb := of_decide_eq_true hb); (try replace hb := of_decide_eq_false hb)))
            | (refine W.go Ts14OK 118 hΓ 1000 rfl ?_; (conv => whnf); refine ⟨?_, ?_⟩)
            | (refine D.go Ts14OK 118 hΓ 1000 rfl ?_; (conv => whnf); refine ⟨?_, ?_⟩)
            | (refine W.drawn rfl rfl ?_; refine D.run Ts14OK 118 hΓ 1000 ?_; (conv => whnf); refine ⟨?_, ?_⟩)
          all_goals (repeat' apply And.intro)
          all_goals try (first
            | exact trivial
            | exact rfl
            | exact fun _ _ => A.sim.refl _
            | exact A.sim.refl _
            | exact Nat.le_refl _
            | omega
            | exact fun _ _ => trivial
            | exact fun i _ => shift_sim _ _ i
            | exact fun _ h => absurd h (Nat.not_lt_zero _)
            | exact fun i _ => isInt_byteAt _ i
            | (simp only [allP, List.nil_append, List.append_nil, List.cons_append, List.append_eq, and_true, true_and, inr_i64, inr_u8, inr_u64, min_i64, max_i64, min_u64, max_u64, min_u8, max_u8, A.purePL, A.pureP, A.sureP, A.surePL, Int.toNat_natCast, Int.reduceToNat, addI, cHi, cLo, hiN, loN, subO, addO, hasIdx, cond_true, cond_false]; first | done | omega | ((repeat' apply And.intro) <;> first | exact trivial | rfl | omega | decide))
            | (show ((d.f2.begins.getD (i + 1) 0 : Nat) : Int) ≤ ((d.f2.b.length : Nat) : Int); omega)
            | (show ((d.f2.begins.getD i 0 : Nat) : Int) ≤ ((d.f2.begins.getD (i + 1) 0 : Nat) : Int); omega)
            | (show ((d.f2.begins.getD i 0 : Nat) : Int) ≤ ((d.f2.b.length : Nat) : Int); omega)
            )
          refine W.seeA ([(11, .own 1 1005 (d.f2.begins.getD i 0) p.length)]) ([]) [] ?_
          (conv => whnf); refine ⟨?_, ?_⟩; focus ((conv => whnf); refine ⟨rfl, rfl, rfl, rfl, rfl, rfl, ?_, ?_⟩; iterate 2 (focus ((repeat' apply And.intro) <;> first | exact trivial | (intro i _; rw [Nat.zero_add]; exact A.sim.refl _) | with_reducible exact rfl | exact fun _ _ => A.sim.refl _ | exact A.sim.refl _ | exact rfl | exact Nat.le_refl _ | omega | exact fun i _ => shift_sim _ _ i | exact fun _ _ => trivial | exact fun _ h => absurd h (Nat.not_lt_zero _) | (show d.f2.begins.getD (i + 1) 0 - d.f2.begins.getD i 0 = p.length; omega) | (show d.f2.b.length - d.f2.begins.getD i 0 = p.length; omega))))
          have hpd : (d.f2.b.drop (d.f2.begins.getD i 0)).take p.length = p := by
            rw [hpt]; exact List.take_length
          have hmt : (if (p.length : Int) < t then (p.length : Int) else t).toNat = (p.take t.toNat).length := by rw [List.length_take]; split <;> omega
          have hpd2 : (d.f2.b.drop (d.f2.begins.getD i 0)).take (p.take t.toNat).length = p.take t.toNat := by rw [List.length_take, ← List.take_take, hpd]
          have hfin : (d.f2.s ++ DK.lefts m t ((c : Int) - 1) d.f2.ps (i + 1)) = (d.f2.s ++ DK.lefts m t ((c : Int) - 1) d.f2.ps i) ++ p.take t.toNat := by rw [hsu, List.append_assoc]
          have hlt : (p.take t.toNat).length ≤ p.length := by rw [List.length_take]; omega
          repeat' first
            | assumption
            | exact Bool.noConfusion hb
            | exact absurd hb (by decide)
            | (exfalso; omega)
            | (exfalso; simp at hb; done)
            | exact absurd (hm0.symm.trans hb) (by decide)
            | exact absurd hm0 hb
            | exact absurd hb hm1
            | (exfalso; revert hb; rw [hm0]; decide)
            | (refine W.branch rfl (fun hb => ?_) (fun hb => ?_) <;> ((try simp only [decide_eq_true_eq, decide_eq_false_iff_not, Bool.not_eq_true', Bool.not_eq_false', Int.not_lt, Int.not_le, cond_true, cond_false, reduceCtorEq, Int.toNat_natCast, Int.reduceToNat, addI] at hb); (try replace hb := of_decide_eq_true hb); (try replace hb := of_decide_eq_false hb)))
            | (refine D.branch rfl (fun hb => ?_) (fun hb => ?_) <;> ((try simp only [decide_eq_true_eq, decide_eq_false_iff_not, Bool.not_eq_true', Bool.not_eq_false', Int.not_lt, Int.not_le, cond_true, cond_false, reduceCtorEq, Int.toNat_natCast, Int.reduceToNat, addI] at hb); (try replace hb := of_decide_eq_true hb); (try replace hb := of_decide_eq_false hb)))
            | (refine W.go Ts18OK 118 hΓ 1000 rfl ?_; (conv => whnf); refine ⟨?_, ?_⟩)
            | (refine D.go Ts18OK 118 hΓ 1000 rfl ?_; (conv => whnf); refine ⟨?_, ?_⟩)
            | (refine W.drawn rfl rfl ?_; refine D.run Ts18OK 118 hΓ 1000 ?_; (conv => whnf); refine ⟨?_, ?_⟩)
          all_goals (repeat' apply And.intro)
          all_goals try (first
            | exact trivial
            | exact rfl
            | exact fun _ _ => A.sim.refl _
            | exact A.sim.refl _
            | exact Nat.le_refl _
            | omega
            | exact fun _ _ => trivial
            | exact fun i _ => shift_sim _ _ i
            | exact fun _ h => absurd h (Nat.not_lt_zero _)
            | exact fun i _ => isInt_byteAt _ i
            | (split <;> omega)
            | (simp only [allP, List.nil_append, List.append_nil, List.cons_append, List.append_eq, and_true, true_and, inr_i64, inr_u8, inr_u64, min_i64, max_i64, min_u64, max_u64, min_u8, max_u8, A.purePL, A.pureP, A.sureP, A.surePL, Int.toNat_natCast, Int.reduceToNat, addI, cHi, cLo, hiN, loN, subO, addO, hasIdx, cond_true, cond_false]; first | done | omega | ((repeat' apply And.intro) <;> first | exact trivial | rfl | omega | decide))
            )
          refine W.seeA ([(11, .own 1 1005 (d.f2.begins.getD i 0) (p.take t.toNat).length)]) ([]) [] ?_
          (conv => whnf); refine ⟨?_, ?_⟩; focus ((conv => whnf); refine ⟨rfl, rfl, rfl, rfl, rfl, rfl, ?_, ?_⟩; iterate 2 (focus ((repeat' apply And.intro) <;> first | exact trivial | (intro i _; rw [Nat.zero_add]; exact A.sim.refl _) | with_reducible exact rfl | exact fun _ _ => A.sim.refl _ | exact A.sim.refl _ | exact rfl | exact Nat.le_refl _ | omega | exact fun i _ => shift_sim _ _ i | exact fun _ _ => trivial | exact fun _ h => absurd h (Nat.not_lt_zero _) | exact hmt)))
          have hfl2 : (d.f2.s ++ DK.lefts m t ((c : Int) - 1) d.f2.ps (i + 1)).length = (d.f2.s ++ DK.lefts m t ((c : Int) - 1) d.f2.ps i).length + (p.take t.toNat).length := by rw [hfin, List.length_append]
          have hsim : ∀ j, j < (d.f2.s ++ DK.lefts m t ((c : Int) - 1) d.f2.ps (i + 1)).length → (catF (d.f2.s ++ DK.lefts m t ((c : Int) - 1) d.f2.ps i).length (byteAt (d.f2.s ++ DK.lefts m t ((c : Int) - 1) d.f2.ps i)) (shiftF (d.f2.begins.getD i 0) (byteAt d.f2.b)) j).sim (byteAt (d.f2.s ++ DK.lefts m t ((c : Int) - 1) d.f2.ps (i + 1)) j) := by
            rw [hfin]
            exact cat_part rfl hpd2 (by rw [List.length_append]; exact Nat.le_refl _)
          repeat' first
            | assumption
            | exact Bool.noConfusion hb
            | exact absurd hb (by decide)
            | (exfalso; omega)
            | (exfalso; simp at hb; done)
            | exact absurd (hm0.symm.trans hb) (by decide)
            | exact absurd hm0 hb
            | exact absurd hb hm1
            | (exfalso; revert hb; rw [hm0]; decide)
            | (refine W.toA (ih (i + 1) ?_ ?_) ?_; rotate_left 2; (conv => whnf); refine ⟨rfl, rfl, rfl, rfl, rfl, rfl, ?_, ?_⟩; iterate 2 (focus ((repeat' apply And.intro) <;> first | exact trivial | (intro i _; rw [Nat.zero_add]; exact A.sim.refl _) | with_reducible exact rfl | exact fun _ _ => A.sim.refl _ | exact A.sim.refl _ | exact rfl | exact Nat.le_refl _ | omega | exact fun i _ => shift_sim _ _ i | exact fun _ _ => trivial | exact fun _ h => absurd h (Nat.not_lt_zero _) | exact hfl2 | exact hfl2.symm | exact Nat.le_of_eq hfl2 | exact hsim)))
            | (refine W.branch rfl (fun hb => ?_) (fun hb => ?_) <;> ((try simp only [decide_eq_true_eq, decide_eq_false_iff_not, Bool.not_eq_true', Bool.not_eq_false', Int.not_lt, Int.not_le, cond_true, cond_false, reduceCtorEq, Int.toNat_natCast, Int.reduceToNat, addI] at hb); (try replace hb := of_decide_eq_true hb); (try replace hb := of_decide_eq_false hb)))
            | (refine D.branch rfl (fun hb => ?_) (fun hb => ?_) <;> ((try simp only [decide_eq_true_eq, decide_eq_false_iff_not, Bool.not_eq_true', Bool.not_eq_false', Int.not_lt, Int.not_le, cond_true, cond_false, reduceCtorEq, Int.toNat_natCast, Int.reduceToNat, addI] at hb); (try replace hb := of_decide_eq_true hb); (try replace hb := of_decide_eq_false hb)))
            | (refine W.go TOK 118 hΓ 1000 rfl ?_; (conv => whnf); refine ⟨?_, ?_⟩)
            | (refine D.go TOK 118 hΓ 1000 rfl ?_; (conv => whnf); refine ⟨?_, ?_⟩)
            | (refine W.drawn rfl rfl ?_; refine D.run TOK 118 hΓ 1000 ?_; (conv => whnf); refine ⟨?_, ?_⟩)
          all_goals (repeat' apply And.intro)
          all_goals try (first
            | exact trivial
            | exact rfl
            | exact fun _ _ => A.sim.refl _
            | exact A.sim.refl _
            | exact Nat.le_refl _
            | omega
            | exact fun _ _ => trivial
            | exact fun i _ => shift_sim _ _ i
            | exact fun _ h => absurd h (Nat.not_lt_zero _)
            | exact fun i _ => isInt_byteAt _ i
            | (simp only [allP, List.nil_append, List.append_nil, List.cons_append, List.append_eq, and_true, true_and, inr_i64, inr_u8, inr_u64, min_i64, max_i64, min_u64, max_u64, min_u8, max_u8, A.purePL, A.pureP, A.sureP, A.surePL, Int.toNat_natCast, Int.reduceToNat, addI, cHi, cLo, hiN, loN, subO, addO, hasIdx, cond_true, cond_false]; first | done | omega | ((repeat' apply And.intro) <;> first | exact trivial | rfl | omega | decide))
            | (show (p.length : Int) * 1 ≤ 17592186044416; omega)
            | (rw [Int.toNat_natCast]; omega)
            )
        · have hle : DK.left m t ((c : Int) - 1) i p = p := by unfold DK.left; rw [if_neg (by simp [hbit]), if_neg ht]
          rw [hle] at hsu
          repeat' first
            | assumption
            | exact Bool.noConfusion hb
            | exact absurd hb (by decide)
            | (exfalso; omega)
            | (exfalso; simp at hb; done)
            | exact absurd (hm0.symm.trans hb) (by decide)
            | exact absurd hm0 hb
            | exact absurd hb hm1
            | (exfalso; revert hb; rw [hm0]; decide)
            | (refine W.branch rfl (fun hb => ?_) (fun hb => ?_) <;> ((try simp only [decide_eq_true_eq, decide_eq_false_iff_not, Bool.not_eq_true', Bool.not_eq_false', Int.not_lt, Int.not_le, cond_true, cond_false, reduceCtorEq, Int.toNat_natCast, Int.reduceToNat, addI] at hb); (try replace hb := of_decide_eq_true hb); (try replace hb := of_decide_eq_false hb)))
            | (refine D.branch rfl (fun hb => ?_) (fun hb => ?_) <;> ((try simp only [decide_eq_true_eq, decide_eq_false_iff_not, Bool.not_eq_true', Bool.not_eq_false', Int.not_lt, Int.not_le, cond_true, cond_false, reduceCtorEq, Int.toNat_natCast, Int.reduceToNat, addI] at hb); (try replace hb := of_decide_eq_true hb); (try replace hb := of_decide_eq_false hb)))
            | (refine W.go Ts14OK 118 hΓ 1000 rfl ?_; (conv => whnf); refine ⟨?_, ?_⟩)
            | (refine D.go Ts14OK 118 hΓ 1000 rfl ?_; (conv => whnf); refine ⟨?_, ?_⟩)
            | (refine W.drawn rfl rfl ?_; refine D.run Ts14OK 118 hΓ 1000 ?_; (conv => whnf); refine ⟨?_, ?_⟩)
          all_goals (repeat' apply And.intro)
          all_goals try (first
            | exact trivial
            | exact rfl
            | exact fun _ _ => A.sim.refl _
            | exact A.sim.refl _
            | exact Nat.le_refl _
            | omega
            | exact fun _ _ => trivial
            | exact fun i _ => shift_sim _ _ i
            | exact fun _ h => absurd h (Nat.not_lt_zero _)
            | exact fun i _ => isInt_byteAt _ i
            | (simp only [allP, List.nil_append, List.append_nil, List.cons_append, List.append_eq, and_true, true_and, inr_i64, inr_u8, inr_u64, min_i64, max_i64, min_u64, max_u64, min_u8, max_u8, A.purePL, A.pureP, A.sureP, A.surePL, Int.toNat_natCast, Int.reduceToNat, addI, cHi, cLo, hiN, loN, subO, addO, hasIdx, cond_true, cond_false]; first | done | omega | ((repeat' apply And.intro) <;> first | exact trivial | rfl | omega | decide))
            | (show ((d.f2.begins.getD (i + 1) 0 : Nat) : Int) ≤ ((d.f2.b.length : Nat) : Int); omega)
            | (show ((d.f2.begins.getD i 0 : Nat) : Int) ≤ ((d.f2.begins.getD (i + 1) 0 : Nat) : Int); omega)
            | (show ((d.f2.begins.getD i 0 : Nat) : Int) ≤ ((d.f2.b.length : Nat) : Int); omega)
            )
          refine W.seeA ([(11, .own 1 1005 (d.f2.begins.getD i 0) p.length)]) ([]) [] ?_
          (conv => whnf); refine ⟨?_, ?_⟩; focus ((conv => whnf); refine ⟨rfl, rfl, rfl, rfl, rfl, rfl, ?_, ?_⟩; iterate 2 (focus ((repeat' apply And.intro) <;> first | exact trivial | (intro i _; rw [Nat.zero_add]; exact A.sim.refl _) | with_reducible exact rfl | exact fun _ _ => A.sim.refl _ | exact A.sim.refl _ | exact rfl | exact Nat.le_refl _ | omega | exact fun i _ => shift_sim _ _ i | exact fun _ _ => trivial | exact fun _ h => absurd h (Nat.not_lt_zero _) | (show d.f2.begins.getD (i + 1) 0 - d.f2.begins.getD i 0 = p.length; omega) | (show d.f2.b.length - d.f2.begins.getD i 0 = p.length; omega))))
          have hpd : (d.f2.b.drop (d.f2.begins.getD i 0)).take p.length = p := by
            rw [hpt]; exact List.take_length
          have hfin : (d.f2.s ++ DK.lefts m t ((c : Int) - 1) d.f2.ps (i + 1)) = (d.f2.s ++ DK.lefts m t ((c : Int) - 1) d.f2.ps i) ++ p := by rw [hsu, List.append_assoc]
          have hfl2 : (d.f2.s ++ DK.lefts m t ((c : Int) - 1) d.f2.ps (i + 1)).length = (d.f2.s ++ DK.lefts m t ((c : Int) - 1) d.f2.ps i).length + p.length := by rw [hfin, List.length_append]
          have hsim : ∀ j, j < (d.f2.s ++ DK.lefts m t ((c : Int) - 1) d.f2.ps (i + 1)).length → (catF (d.f2.s ++ DK.lefts m t ((c : Int) - 1) d.f2.ps i).length (byteAt (d.f2.s ++ DK.lefts m t ((c : Int) - 1) d.f2.ps i)) (shiftF (d.f2.begins.getD i 0) (byteAt d.f2.b)) j).sim (byteAt (d.f2.s ++ DK.lefts m t ((c : Int) - 1) d.f2.ps (i + 1)) j) := by
            rw [hfin]
            exact cat_part rfl hpd (by rw [List.length_append]; exact Nat.le_refl _)
          repeat' first
            | assumption
            | exact Bool.noConfusion hb
            | exact absurd hb (by decide)
            | (exfalso; omega)
            | (exfalso; simp at hb; done)
            | exact absurd (hm0.symm.trans hb) (by decide)
            | exact absurd hm0 hb
            | exact absurd hb hm1
            | (exfalso; revert hb; rw [hm0]; decide)
            | (refine W.toA (ih (i + 1) ?_ ?_) ?_; rotate_left 2; (conv => whnf); refine ⟨rfl, rfl, rfl, rfl, rfl, rfl, ?_, ?_⟩; iterate 2 (focus ((repeat' apply And.intro) <;> first | exact trivial | (intro i _; rw [Nat.zero_add]; exact A.sim.refl _) | with_reducible exact rfl | exact fun _ _ => A.sim.refl _ | exact A.sim.refl _ | exact rfl | exact Nat.le_refl _ | omega | exact fun i _ => shift_sim _ _ i | exact fun _ _ => trivial | exact fun _ h => absurd h (Nat.not_lt_zero _) | exact hfl2 | exact hfl2.symm | exact Nat.le_of_eq hfl2 | exact hsim)))
            | (refine W.branch rfl (fun hb => ?_) (fun hb => ?_) <;> ((try simp only [decide_eq_true_eq, decide_eq_false_iff_not, Bool.not_eq_true', Bool.not_eq_false', Int.not_lt, Int.not_le, cond_true, cond_false, reduceCtorEq, Int.toNat_natCast, Int.reduceToNat, addI] at hb); (try replace hb := of_decide_eq_true hb); (try replace hb := of_decide_eq_false hb)))
            | (refine D.branch rfl (fun hb => ?_) (fun hb => ?_) <;> ((try simp only [decide_eq_true_eq, decide_eq_false_iff_not, Bool.not_eq_true', Bool.not_eq_false', Int.not_lt, Int.not_le, cond_true, cond_false, reduceCtorEq, Int.toNat_natCast, Int.reduceToNat, addI] at hb); (try replace hb := of_decide_eq_true hb); (try replace hb := of_decide_eq_false hb)))
            | (refine W.go TOK 118 hΓ 1000 rfl ?_; (conv => whnf); refine ⟨?_, ?_⟩)
            | (refine D.go TOK 118 hΓ 1000 rfl ?_; (conv => whnf); refine ⟨?_, ?_⟩)
            | (refine W.drawn rfl rfl ?_; refine D.run TOK 118 hΓ 1000 ?_; (conv => whnf); refine ⟨?_, ?_⟩)
          all_goals (repeat' apply And.intro)
          all_goals try (first
            | exact trivial
            | exact rfl
            | exact fun _ _ => A.sim.refl _
            | exact A.sim.refl _
            | exact Nat.le_refl _
            | omega
            | exact fun _ _ => trivial
            | exact fun i _ => shift_sim _ _ i
            | exact fun _ h => absurd h (Nat.not_lt_zero _)
            | exact fun i _ => isInt_byteAt _ i
            | (simp only [allP, List.nil_append, List.append_nil, List.cons_append, List.append_eq, and_true, true_and, inr_i64, inr_u8, inr_u64, min_i64, max_i64, min_u64, max_u64, min_u8, max_u8, A.purePL, A.pureP, A.sureP, A.surePL, Int.toNat_natCast, Int.reduceToNat, addI, cHi, cLo, hiN, loN, subO, addO, hasIdx, cond_true, cond_false]; first | done | omega | ((repeat' apply And.intro) <;> first | exact trivial | rfl | omega | decide))
            | (show (p.length : Int) * 1 ≤ 17592186044416; omega)
            | (rw [Int.toNat_natCast]; omega)
            )
      · rw [if_neg hbit] at hm0
        have hle : DK.left m t ((c : Int) - 1) i p = List.replicate p.length 0 := by unfold DK.left; rw [if_pos (by simpa using hbit)]
        rw [hle] at hsu
        repeat' first
          | assumption
          | exact Bool.noConfusion hb
          | exact absurd hb (by decide)
          | (exfalso; omega)
          | (exfalso; simp at hb; done)
          | exact absurd (hm0.symm.trans hb) (by decide)
          | exact absurd hm0 hb
          | exact absurd hb hm1
          | (exfalso; revert hb; rw [hm0]; decide)
          | (refine W.branch rfl (fun hb => ?_) (fun hb => ?_) <;> ((try simp only [decide_eq_true_eq, decide_eq_false_iff_not, Bool.not_eq_true', Bool.not_eq_false', Int.not_lt, Int.not_le, cond_true, cond_false, reduceCtorEq, Int.toNat_natCast, Int.reduceToNat, addI] at hb); (try replace hb := of_decide_eq_true hb); (try replace hb := of_decide_eq_false hb)))
          | (refine D.branch rfl (fun hb => ?_) (fun hb => ?_) <;> ((try simp only [decide_eq_true_eq, decide_eq_false_iff_not, Bool.not_eq_true', Bool.not_eq_false', Int.not_lt, Int.not_le, cond_true, cond_false, reduceCtorEq, Int.toNat_natCast, Int.reduceToNat, addI] at hb); (try replace hb := of_decide_eq_true hb); (try replace hb := of_decide_eq_false hb)))
          | (refine W.go Ts14OK 118 hΓ 1000 rfl ?_; (conv => whnf); refine ⟨?_, ?_⟩)
          | (refine D.go Ts14OK 118 hΓ 1000 rfl ?_; (conv => whnf); refine ⟨?_, ?_⟩)
          | (refine W.drawn rfl rfl ?_; refine D.run Ts14OK 118 hΓ 1000 ?_; (conv => whnf); refine ⟨?_, ?_⟩)
        all_goals (repeat' apply And.intro)
        all_goals try (first
          | exact trivial
          | exact rfl
          | exact fun _ _ => A.sim.refl _
          | exact A.sim.refl _
          | exact Nat.le_refl _
          | omega
          | exact fun _ _ => trivial
          | exact fun i _ => shift_sim _ _ i
          | exact fun _ h => absurd h (Nat.not_lt_zero _)
          | exact fun i _ => isInt_byteAt _ i
          | (simp only [allP, List.nil_append, List.append_nil, List.cons_append, List.append_eq, and_true, true_and, inr_i64, inr_u8, inr_u64, min_i64, max_i64, min_u64, max_u64, min_u8, max_u8, A.purePL, A.pureP, A.sureP, A.surePL, Int.toNat_natCast, Int.reduceToNat, addI, cHi, cLo, hiN, loN, subO, addO, hasIdx, cond_true, cond_false]; first | done | omega | ((repeat' apply And.intro) <;> first | exact trivial | rfl | omega | decide))
          | (show ((d.f2.begins.getD (i + 1) 0 : Nat) : Int) ≤ ((d.f2.b.length : Nat) : Int); omega)
          | (show ((d.f2.begins.getD i 0 : Nat) : Int) ≤ ((d.f2.begins.getD (i + 1) 0 : Nat) : Int); omega)
          | (show ((d.f2.begins.getD i 0 : Nat) : Int) ≤ ((d.f2.b.length : Nat) : Int); omega)
          )
        refine W.seeA ([(11, .own 1 1005 (d.f2.begins.getD i 0) p.length)]) ([]) [] ?_
        (conv => whnf); refine ⟨?_, ?_⟩; focus ((conv => whnf); refine ⟨rfl, rfl, rfl, rfl, rfl, rfl, ?_, ?_⟩; iterate 2 (focus ((repeat' apply And.intro) <;> first | exact trivial | (intro i _; rw [Nat.zero_add]; exact A.sim.refl _) | with_reducible exact rfl | exact fun _ _ => A.sim.refl _ | exact A.sim.refl _ | exact rfl | exact Nat.le_refl _ | omega | exact fun i _ => shift_sim _ _ i | exact fun _ _ => trivial | exact fun _ h => absurd h (Nat.not_lt_zero _) | (show d.f2.begins.getD (i + 1) 0 - d.f2.begins.getD i 0 = p.length; omega) | (show d.f2.b.length - d.f2.begins.getD i 0 = p.length; omega))))
        have hpd : (d.f2.b.drop (d.f2.begins.getD i 0)).take p.length = p := by
          rw [hpt]; exact List.take_length
        have hfin : (d.f2.s ++ DK.lefts m t ((c : Int) - 1) d.f2.ps (i + 1)) = (d.f2.s ++ DK.lefts m t ((c : Int) - 1) d.f2.ps i) ++ List.replicate p.length 0 := by rw [hsu, List.append_assoc]
        have hfl2 : (d.f2.s ++ DK.lefts m t ((c : Int) - 1) d.f2.ps (i + 1)).length = (d.f2.s ++ DK.lefts m t ((c : Int) - 1) d.f2.ps i).length + p.length := by rw [hfin, List.length_append, List.length_replicate]
        have hsim : ∀ j, j < (d.f2.s ++ DK.lefts m t ((c : Int) - 1) d.f2.ps (i + 1)).length → (catF (d.f2.s ++ DK.lefts m t ((c : Int) - 1) d.f2.ps i).length (byteAt (d.f2.s ++ DK.lefts m t ((c : Int) - 1) d.f2.ps i)) (fun _ => A.int .u8 0) j).sim (byteAt (d.f2.s ++ DK.lefts m t ((c : Int) - 1) d.f2.ps (i + 1)) j) := by
          rw [hfin]
          exact cat_zero rfl (by rw [List.length_append, List.length_replicate]; exact Nat.le_refl _)
        repeat' first
          | assumption
          | exact Bool.noConfusion hb
          | exact absurd hb (by decide)
          | (exfalso; omega)
          | (exfalso; simp at hb; done)
          | exact absurd (hm0.symm.trans hb) (by decide)
          | exact absurd hm0 hb
          | exact absurd hb hm1
          | (exfalso; revert hb; rw [hm0]; decide)
          | (refine W.toA (ih (i + 1) ?_ ?_) ?_; rotate_left 2; (conv => whnf); refine ⟨rfl, rfl, rfl, rfl, rfl, rfl, ?_, ?_⟩; iterate 2 (focus ((repeat' apply And.intro) <;> first | exact trivial | (intro i _; rw [Nat.zero_add]; exact A.sim.refl _) | with_reducible exact rfl | exact fun _ _ => A.sim.refl _ | exact A.sim.refl _ | exact rfl | exact Nat.le_refl _ | omega | exact fun i _ => shift_sim _ _ i | exact fun _ _ => trivial | exact fun _ h => absurd h (Nat.not_lt_zero _) | exact hfl2 | exact hfl2.symm | exact Nat.le_of_eq hfl2 | exact hsim)))
          | (refine W.branch rfl (fun hb => ?_) (fun hb => ?_) <;> ((try simp only [decide_eq_true_eq, decide_eq_false_iff_not, Bool.not_eq_true', Bool.not_eq_false', Int.not_lt, Int.not_le, cond_true, cond_false, reduceCtorEq, Int.toNat_natCast, Int.reduceToNat, addI] at hb); (try replace hb := of_decide_eq_true hb); (try replace hb := of_decide_eq_false hb)))
          | (refine D.branch rfl (fun hb => ?_) (fun hb => ?_) <;> ((try simp only [decide_eq_true_eq, decide_eq_false_iff_not, Bool.not_eq_true', Bool.not_eq_false', Int.not_lt, Int.not_le, cond_true, cond_false, reduceCtorEq, Int.toNat_natCast, Int.reduceToNat, addI] at hb); (try replace hb := of_decide_eq_true hb); (try replace hb := of_decide_eq_false hb)))
          | (refine W.go TOK 118 hΓ 1000 rfl ?_; (conv => whnf); refine ⟨?_, ?_⟩)
          | (refine D.go TOK 118 hΓ 1000 rfl ?_; (conv => whnf); refine ⟨?_, ?_⟩)
          | (refine W.drawn rfl rfl ?_; refine D.run TOK 118 hΓ 1000 ?_; (conv => whnf); refine ⟨?_, ?_⟩)
        all_goals (repeat' apply And.intro)
        all_goals try (first
          | exact trivial
          | exact rfl
          | exact fun _ _ => A.sim.refl _
          | exact A.sim.refl _
          | exact Nat.le_refl _
          | omega
          | exact fun _ _ => trivial
          | exact fun i _ => shift_sim _ _ i
          | exact fun _ h => absurd h (Nat.not_lt_zero _)
          | exact fun i _ => isInt_byteAt _ i
          | (simp only [allP, List.nil_append, List.append_nil, List.cons_append, List.append_eq, and_true, true_and, inr_i64, inr_u8, inr_u64, min_i64, max_i64, min_u64, max_u64, min_u8, max_u8, A.purePL, A.pureP, A.sureP, A.surePL, Int.toNat_natCast, Int.reduceToNat, addI, cHi, cLo, hiN, loN, subO, addO, hasIdx, cond_true, cond_false]; first | done | omega | ((repeat' apply And.intro) <;> first | exact trivial | rfl | omega | decide))
          | (show (p.length : Int) * 1 ≤ 17592186044416; omega)
          | (rw [Int.toNat_natCast]; omega)
          )
  · have hie : i = c := by omega
    subst hie
    repeat' first
      | assumption
      | exact Bool.noConfusion hb
      | exact absurd hb (by decide)
      | (exfalso; omega)
      | (exfalso; simp at hb; done)
      | exact absurd (hm0.symm.trans hb) (by decide)
      | exact absurd hm0 hb
      | exact absurd hb hm1
      | (exfalso; revert hb; rw [hm0]; decide)
      | (refine W.endA TOK rfl ?_; (conv => whnf); refine ⟨rfl, rfl, rfl, rfl, rfl, rfl, ?_, ?_, ?_⟩)
      | (refine W.branch rfl (fun hb => ?_) (fun hb => ?_) <;> ((try simp only [decide_eq_true_eq, decide_eq_false_iff_not, Bool.not_eq_true', Bool.not_eq_false', Int.not_lt, Int.not_le, cond_true, cond_false, reduceCtorEq, Int.toNat_natCast, Int.reduceToNat, addI] at hb); (try replace hb := of_decide_eq_true hb); (try replace hb := of_decide_eq_false hb)))
      | (refine D.branch rfl (fun hb => ?_) (fun hb => ?_) <;> ((try simp only [decide_eq_true_eq, decide_eq_false_iff_not, Bool.not_eq_true', Bool.not_eq_false', Int.not_lt, Int.not_le, cond_true, cond_false, reduceCtorEq, Int.toNat_natCast, Int.reduceToNat, addI] at hb); (try replace hb := of_decide_eq_true hb); (try replace hb := of_decide_eq_false hb)))
      | (refine W.go TOK 118 hΓ 1000 rfl ?_; (conv => whnf); refine ⟨?_, ?_⟩)
      | (refine D.go TOK 118 hΓ 1000 rfl ?_; (conv => whnf); refine ⟨?_, ?_⟩)
      | (refine W.drawn rfl rfl ?_; refine D.run TOK 118 hΓ 1000 ?_; (conv => whnf); refine ⟨?_, ?_⟩)
    all_goals (repeat' apply And.intro)
    all_goals try (first
      | exact trivial
      | exact rfl
      | exact fun _ _ => A.sim.refl _
      | exact A.sim.refl _
      | exact Nat.le_refl _
      | omega
      | exact fun _ _ => trivial
      | exact fun i _ => shift_sim _ _ i
      | exact fun _ h => absurd h (Nat.not_lt_zero _)
      | exact fun i _ => isInt_byteAt _ i
      | exact (List.length_append (bs := [])).symm
      | exact end_len _ _
      | exact (end_len _ _).symm
      | exact Nat.le_of_eq (end_len _ _).symm
      | exact Nat.le_of_eq (end_len _ _)
      | exact end_sim _ _
      | exact ⟨rfl, rfl⟩
      | (simp only [allP, List.nil_append, List.append_nil, List.cons_append, List.append_eq, and_true, true_and, inr_i64, inr_u8, inr_u64, min_i64, max_i64, min_u64, max_u64, min_u8, max_u8, A.purePL, A.pureP, A.sureP, A.surePL, Int.toNat_natCast, Int.reduceToNat, addI, cHi, cLo, hiN, loN, subO, addO, hasIdx, cond_true, cond_false]; first | done | omega | ((repeat' apply And.intro) <;> first | exact trivial | rfl | omega | decide))
      )

theorem crashF_le (m : Nat) (t : Int) (x : DK.F) : (DK.crashF m t x).b.length ≤ x.b.length := by
  have h1 := DK.lastB_le m (min x.ps.length 64)
  have h2 := DK.lefts_len m t (DK.lastOf m x) x.ps (DK.lastOf m x + 1).toNat (by unfold DK.lastOf; omega)
  have h3 := DK.flat_le (ps := x.ps) (DK.lastOf m x + 1).toNat
  show (x.s ++ _ ++ ([] : List (List UInt8)).flatten).length ≤ (x.s ++ x.ps.flatten).length
  rw [show (([] : List (List UInt8)).flatten) = [] from rfl, List.append_nil, List.length_append, List.length_append]
  omega
theorem ok_c0 {d : DK.D} (h : DK.Ok d) (m : Nat) (t : Int) : DK.Ok (DK.set d 0 (DK.crashF m t d.f0)) := ⟨h.fl, h.fh, h.rl, h.rh, Nat.le_trans (crashF_le m t d.f0) h.b0, h.b1, h.b2, Nat.zero_le _, h.p1, h.p2⟩
theorem ok_c1 {d : DK.D} (h : DK.Ok d) (m : Nat) (t : Int) : DK.Ok (DK.set d 1 (DK.crashF m t d.f1)) := ⟨h.fl, h.fh, h.rl, h.rh, h.b0, Nat.le_trans (crashF_le m t d.f1) h.b1, h.b2, h.p0, Nat.zero_le _, h.p2⟩
theorem ok_crash {d : DK.D} (h : DK.Ok d) (m : Nat) (t : Int) : DK.Ok (DK.crashD d m t) := ⟨by simp [DK.crashD], by simp [DK.crashD], h.rl, h.rh, Nat.le_trans (crashF_le m t d.f0) h.b0, Nat.le_trans (crashF_le m t d.f1) h.b1, Nat.le_trans (crashF_le m t d.f2) h.b2, Nat.zero_le _, Nat.zero_le _, Nat.zero_le _⟩

theorem crash_does (d : DK.D) (m : Nat) (t : Int) (hm : m < 18446744073709551616) (ho : DK.Ok d) : Does Try.prog 14 [.ptr 1000 [], .int .u64 m, .int .i64 t] (DR d) NW (Is (.tup []) (DN (DK.crashD d m t))) := by
  have o0 := ok_c0 ho m t
  have o1 := ok_c1 o0 m t
  refine Does.intro (fn := Try.f14) Try.func14 rfl rfl fun Γ hΓ => ?_
  refine W.run TOK 22 hΓ 1000 ?_
  conv => whnf
  refine ⟨?_, ?_⟩
  repeat' first
    | assumption
    | exact Bool.noConfusion hb
    | exact absurd hb (by decide)
    | (exfalso; omega)
    | (exfalso; simp at hb; done)
    | (refine W.enter ?_)
    | (refine W.again ?_)
    | (refine W.endA TOK rfl ?_; (conv => whnf); refine ⟨rfl, rfl, rfl, rfl, rfl, rfl, ?_, ?_, ?_⟩)
    | (refine W.branch rfl (fun hb => ?_) (fun hb => ?_) <;> ((try simp only [decide_eq_true_eq, decide_eq_false_iff_not, Bool.not_eq_true', Bool.not_eq_false', Int.not_lt, Int.not_le, cond_true, cond_false, reduceCtorEq, Int.toNat_natCast, Int.reduceToNat, addI] at hb); (try replace hb := of_decide_eq_true hb); (try replace hb := of_decide_eq_false hb)))
    | (refine D.branch rfl (fun hb => ?_) (fun hb => ?_) <;> ((try simp only [decide_eq_true_eq, decide_eq_false_iff_not, Bool.not_eq_true', Bool.not_eq_false', Int.not_lt, Int.not_le, cond_true, cond_false, reduceCtorEq, Int.toNat_natCast, Int.reduceToNat, addI] at hb); (try replace hb := of_decide_eq_true hb); (try replace hb := of_decide_eq_false hb)))
    | ((first | (refine D.callA (crash_0 d m t hm ho) rfl rfl rfl rfl hΓ rfl ?_; (conv => whnf); refine ⟨rfl, rfl, rfl, ?_, ?_, ?_, ?_⟩) | (refine W.callA (crash_0 d m t hm ho) rfl rfl rfl rfl hΓ rfl ?_; (conv => whnf); refine ⟨rfl, rfl, ?_, ?_, ?_, ?_⟩)); iterate 3 (focus ((repeat' apply And.intro) <;> first | exact trivial | (intro i _; rw [Nat.zero_add]; exact A.sim.refl _) | with_reducible exact rfl | exact fun _ _ => A.sim.refl _ | exact A.sim.refl _ | exact rfl | exact Nat.le_refl _ | omega | exact fun i _ => shift_sim _ _ i | exact fun _ _ => trivial | exact fun _ h => absurd h (Nat.not_lt_zero _))); (conv => whnf))
    | ((first | (refine D.callA (crash_1 _ m t hm o0) rfl rfl rfl rfl hΓ rfl ?_; (conv => whnf); refine ⟨rfl, rfl, rfl, ?_, ?_, ?_, ?_⟩) | (refine W.callA (crash_1 _ m t hm o0) rfl rfl rfl rfl hΓ rfl ?_; (conv => whnf); refine ⟨rfl, rfl, ?_, ?_, ?_, ?_⟩)); iterate 3 (focus ((repeat' apply And.intro) <;> first | exact trivial | (intro i _; rw [Nat.zero_add]; exact A.sim.refl _) | with_reducible exact rfl | exact fun _ _ => A.sim.refl _ | exact A.sim.refl _ | exact rfl | exact Nat.le_refl _ | omega | exact fun i _ => shift_sim _ _ i | exact fun _ _ => trivial | exact fun _ h => absurd h (Nat.not_lt_zero _))); (conv => whnf))
    | ((first | (refine D.callA (crash_2 _ m t hm o1) rfl rfl rfl rfl hΓ rfl ?_; (conv => whnf); refine ⟨rfl, rfl, rfl, ?_, ?_, ?_, ?_⟩) | (refine W.callA (crash_2 _ m t hm o1) rfl rfl rfl rfl hΓ rfl ?_; (conv => whnf); refine ⟨rfl, rfl, ?_, ?_, ?_, ?_⟩)); iterate 3 (focus ((repeat' apply And.intro) <;> first | exact trivial | (intro i _; rw [Nat.zero_add]; exact A.sim.refl _) | with_reducible exact rfl | exact fun _ _ => A.sim.refl _ | exact A.sim.refl _ | exact rfl | exact Nat.le_refl _ | omega | exact fun i _ => shift_sim _ _ i | exact fun _ _ => trivial | exact fun _ h => absurd h (Nat.not_lt_zero _))); (conv => whnf))
    | (refine W.go TOK 22 hΓ 1000 rfl ?_; (conv => whnf); refine ⟨?_, ?_⟩)
    | (refine D.go TOK 22 hΓ 1000 rfl ?_; (conv => whnf); refine ⟨?_, ?_⟩)
    | (refine W.drawn rfl rfl ?_; refine D.run TOK 22 hΓ 1000 ?_; (conv => whnf); refine ⟨?_, ?_⟩)
  all_goals (repeat' apply And.intro)
  all_goals try (first
    | exact trivial
    | exact rfl
    | exact fun _ _ => A.sim.refl _
    | exact A.sim.refl _
    | exact Nat.le_refl _
    | omega
    | exact fun _ _ => trivial
    | exact fun i _ => shift_sim _ _ i
    | exact fun _ h => absurd h (Nat.not_lt_zero _)
    | exact fun i _ => isInt_byteAt _ i
    | exact ⟨rfl, rfl⟩
    | (simp only [allP, List.nil_append, List.append_nil, List.cons_append, List.append_eq, and_true, true_and, inr_i64, inr_u8, inr_u64, min_i64, max_i64, min_u64, max_u64, min_u8, max_u8, A.purePL, A.pureP, A.sureP, A.surePL, Int.toNat_natCast, Int.reduceToNat, addI, cHi, cLo, hiN, loN, subO, addO, hasIdx, cond_true, cond_false]; first | done | omega | ((repeat' apply And.intro) <;> first | exact trivial | rfl | omega | decide))
    )

end Go.Proofs.Ytiapjcncfoefeaa
