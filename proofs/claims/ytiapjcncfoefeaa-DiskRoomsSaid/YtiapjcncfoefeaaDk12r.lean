/- Walks: the statements of layer 12. -/
import Derived.Test.YtiapjcncfoefeaaDk12k
set_option linter.unusedSimpArgs false
set_option linter.unusedVariables false
namespace Go.Proofs.Ytiapjcncfoefeaa
open VX
set_option maxRecDepth 100000
set_option maxHeartbeats 4000000
structure RoomJ (r : Nat) (l : List UInt8) (x : Nat × DK.D) : Prop where
  i : x.1 ≤ l.length
  fl : x.2.fail = -1
  rm : x.2.room = r
  us : DK.used x.2 ≤ r
  p0 : x.2.f0.ps.length ≤ x.1
  p1 : x.2.f1.ps.length ≤ x.1
  p2 : x.2.f2.ps.length ≤ x.1
theorem RoomJ.ok {r : Nat} {l : List UInt8} {x : Nat × DK.D} (h : RoomJ r l x) (hr : r ≤ 255) (hl : l.length ≤ 40) : DK.Ok x.2 := by
  have h1 := h.i; have h2 := h.fl; have h3 := h.rm; have h4 := h.us; have h5 := h.p0; have h6 := h.p1; have h7 := h.p2
  unfold DK.used at h4
  exact ⟨by omega, by omega, by omega, by omega, by omega, by omega, by omega, by omega, by omega, by omega⟩
theorem RoomJ.step {r : Nat} {l : List UInt8} {x : Nat × DK.D} (h : RoomJ r l x) (hi : x.1 < l.length) (f : Nat) (hf : f < 3) (b : List UInt8) : RoomJ r l (x.1 + 1, DK.appD x.2 f b) ∧
    (DK.appE x.2 f b = 0 ∧ DK.used x.2 + b.length ≤ r ∧ DK.used (DK.appD x.2 f b) = DK.used x.2 + b.length ∨ DK.appE x.2 f b = 33 ∧ r < DK.used x.2 + b.length ∧ DK.used (DK.appD x.2 f b) = DK.used x.2) := by
  have hno : ¬ DK.no (f : Int) = true := by simp [DK.no]; omega
  have hfb : ¬ DK.failB x.2 = true := by simp [DK.failB, h.fl]
  have hfd : DK.failD x.2 = x.2 := by
    have := h.fl
    cases hx : x.2 with
    | mk a b c d e => rw [hx] at this; simp only [DK.failD] at this ⊢; rw [this]; rfl
  have h0 := h.us; have h3 := h.rm; have h5 := h.p0; have h6 := h.p1; have h7 := h.p2
  unfold DK.appE DK.appD
  rw [if_neg hno, if_neg hfb, if_neg hno, if_neg hfb, hfd]
  by_cases hb : x.2.room - (DK.used x.2 : Int) < b.length
  · rw [if_pos hb, if_pos hb]
    exact ⟨⟨hi, h.fl, h.rm, h.us, by simp only; omega, by simp only; omega, by simp only; omega⟩, .inr ⟨rfl, by omega, rfl⟩⟩
  · rw [if_neg hb, if_neg hb, Int.toNat_natCast]
    have hu : DK.used (DK.set x.2 f (DK.appF (DK.get x.2 f) b)) = DK.used x.2 + b.length := by
      match f, hf with
      | 0, _ => simp only [DK.used, DK.set, DK.get, DK.appF_len]; omega
      | 1, _ => simp only [DK.used, DK.set, DK.get, DK.appF_len]; omega
      | 2, _ => simp only [DK.used, DK.set, DK.get, DK.appF_len]; omega
    refine ⟨⟨hi, ?_, ?_, by simp only; rw [hu]; omega, ?_, ?_, ?_⟩, .inl ⟨rfl, by omega, hu⟩⟩
    all_goals (match f, hf with
      | 0, _ => (simp only [DK.set, DK.get, DK.appF]; first | exact h.fl | exact h.rm | omega | (rw [List.length_append]; simp only [List.length_cons, List.length_nil]; omega))
      | 1, _ => (simp only [DK.set, DK.get, DK.appF]; first | exact h.fl | exact h.rm | omega | (rw [List.length_append]; simp only [List.length_cons, List.length_nil]; omega))
      | 2, _ => (simp only [DK.set, DK.get, DK.appF]; first | exact h.fl | exact h.rm | omega | (rw [List.length_append]; simp only [List.length_cons, List.length_nil]; omega)))

theorem zeros_b (n : Nat) {m : Nat} : ∀ i, i < m → (A.int .u8 0).sim (byteAt (List.replicate n 0) i) := fun i _ => A.sim.of (by
  unfold byteAt
  rw [List.getD_eq_getElem?_getD, List.getElem?_replicate]
  split <;> rfl)
theorem rooms_does (room : UInt8) (l : List UInt8) : Does Try.prog 6 [VX.byte room, bytesA l] [] [] Yes := by
  have k8 := room.toNat_lt
  have c0 := newd_does (IntKind.i64.wrap (room.toNat : Int))
  have hrw : IntKind.i64.wrap (room.toNat : Int) = (room.toNat : Int) := wrap_i64_in (by omega) (by omega)
  rw [hrw] at c0
  refine Does.intro (fn := Try.f6) Try.func6 rfl rfl fun Γ hΓ => ?_
  refine W.run TOK 88 hΓ 1000 ?_
  conv => whnf
  refine ⟨?_, ?_⟩
  repeat' first
    | assumption
    | exact Bool.noConfusion hb
    | exact absurd hb (by decide)
    | (exfalso; omega)
    | (refine W.retY TOK rfl rfl ⟨?_, ?_⟩)
    | (refine W.branch rfl (fun hb => ?_) (fun hb => ?_) <;> ((try simp only [decide_eq_true_eq, decide_eq_false_iff_not, Bool.not_eq_true', Bool.not_eq_false', Int.not_lt, Int.not_le, cond_true, cond_false, reduceCtorEq, Int.toNat_natCast, Int.reduceToNat, addI] at hb); (try replace hb := of_decide_eq_true hb); (try replace hb := of_decide_eq_false hb)))
    | (refine D.branch rfl (fun hb => ?_) (fun hb => ?_) <;> ((try simp only [decide_eq_true_eq, decide_eq_false_iff_not, Bool.not_eq_true', Bool.not_eq_false', Int.not_lt, Int.not_le, cond_true, cond_false, reduceCtorEq, Int.toNat_natCast, Int.reduceToNat, addI] at hb); (try replace hb := of_decide_eq_true hb); (try replace hb := of_decide_eq_false hb)))
    | ((first | (refine D.callA (known_does) rfl rfl rfl rfl hΓ rfl ?_; (conv => whnf); refine ⟨rfl, rfl, rfl, ?_, ?_, ?_, ?_⟩) | (refine W.callA (known_does) rfl rfl rfl rfl hΓ rfl ?_; (conv => whnf); refine ⟨rfl, rfl, ?_, ?_, ?_, ?_⟩)); iterate 3 (focus ((repeat' apply And.intro) <;> first | exact trivial | (intro i _; rw [Nat.zero_add]; exact A.sim.refl _) | with_reducible exact rfl | exact fun _ _ => A.sim.refl _ | exact A.sim.refl _ | exact rfl | exact Nat.le_refl _ | omega | exact fun i _ => shift_sim _ _ i | exact fun _ _ => trivial | exact fun _ h => absurd h (Nat.not_lt_zero _) | (rw [hrw]))); (conv => whnf))
    | ((first | (refine D.callA (c0) rfl rfl rfl rfl hΓ rfl ?_; (conv => whnf); refine ⟨rfl, rfl, rfl, ?_, ?_, ?_, ?_⟩) | (refine W.callA (c0) rfl rfl rfl rfl hΓ rfl ?_; (conv => whnf); refine ⟨rfl, rfl, ?_, ?_, ?_, ?_⟩)); iterate 3 (focus ((repeat' apply And.intro) <;> first | exact trivial | (intro i _; rw [Nat.zero_add]; exact A.sim.refl _) | with_reducible exact rfl | exact fun _ _ => A.sim.refl _ | exact A.sim.refl _ | exact rfl | exact Nat.le_refl _ | omega | exact fun i _ => shift_sim _ _ i | exact fun _ _ => trivial | exact fun _ h => absurd h (Nat.not_lt_zero _) | (rw [hrw]))); (conv => whnf))
    | (refine W.go TOK 88 hΓ 1000 rfl ?_; (conv => whnf); refine ⟨?_, ?_⟩)
    | (refine D.go TOK 88 hΓ 1000 rfl ?_; (conv => whnf); refine ⟨?_, ?_⟩)
    | (refine W.drawn rfl rfl ?_; refine D.run TOK 88 hΓ 1000 ?_; (conv => whnf); refine ⟨?_, ?_⟩)
  all_goals (repeat' apply And.intro)
  all_goals try (first
    | exact trivial
    | exact rfl
    | exact fun _ _ => A.sim.refl _
    | exact A.sim.refl _
    | exact Nat.le_refl _
    | omega
    | exact fun _ _ => trivial
    | exact fun i _ => shift_sim _ _ i
    | exact fun _ h => absurd h (Nat.not_lt_zero _)
    | exact fun i _ => isInt_byteAt _ i
    | (simp only [allP, List.nil_append, List.append_nil, List.cons_append, List.append_eq, and_true, true_and, inr_i64, inr_u8, inr_u64, min_i64, max_i64, min_u64, max_u64, min_u8, max_u8, A.purePL, A.pureP, A.sureP, A.surePL, Int.toNat_natCast, Int.reduceToNat, addI, cHi, cLo, hiN, loN, subO, addO, hasIdx, cond_true, cond_false]; first | done | omega | ((repeat' apply And.intro) <;> first | exact trivial | rfl | omega | decide))
    )
  refine W.loopA (Nat × DK.D) (RoomJ room.toNat l) (fun x => l.length - x.1) (fun x => [(5, .ptr 700 []), (6, .int .i64 (DK.used x.2 : Nat)), (7, .int .i64 (x.1 : Nat))]) (fun x => diskR 700 701 702 703 704 705 706 x.2) [] ((0, DK.newD (room.toNat : Nat))) (⟨Nat.zero_le _, rfl, by unfold DK.newD; rw [if_neg (by omega)], Nat.zero_le _, Nat.le_refl _, Nat.le_refl _, Nat.le_refl _⟩) ?_
  (conv => whnf); refine ⟨?_, ?_⟩; focus ((conv => whnf); refine ⟨rfl, rfl, rfl, rfl, rfl, rfl, ?_, ?_⟩; iterate 2 (focus ((repeat' apply And.intro) <;> first | exact trivial | (intro i _; rw [Nat.zero_add]; exact A.sim.refl _) | with_reducible exact rfl | exact fun _ _ => A.sim.refl _ | exact A.sim.refl _ | exact rfl | exact Nat.le_refl _ | omega | exact fun i _ => shift_sim _ _ i | exact fun _ _ => trivial | exact fun _ h => absurd h (Nat.not_lt_zero _) | exact ⟨rfl, rfl⟩)))
  rintro x hJ ih
  have hl40 : l.length ≤ 40 := by omega
  have hok := hJ.ok (by omega) hl40
  have hi := hJ.i
  have hus := hJ.us
  by_cases hil : x.1 < l.length
  · have q8 := (l.getD x.1 0).toNat_lt
    obtain ⟨q, hq⟩ : ∃ q, q = (l.getD x.1 0).toNat := ⟨_, rfl⟩
    have hst := hJ.step hil ((l.getD x.1 0).toNat % 3) (by omega) (List.replicate ((l.getD x.1 0).toNat / 3 % 20) 0)
    have hfv : IntKind.i64.wrap ((((l.getD x.1 0).toNat : Nat) : Int) % 3) = (((l.getD x.1 0).toNat % 3 : Nat) : Int) := by rw [wrap_i64_in (by omega) (by omega)]; omega
    have hbw : IntKind.i64.wrap (((l.getD x.1 0).toNat : Int) / 3 % 20) = (((l.getD x.1 0).toNat / 3 % 20 : Nat) : Int) := by rw [wrap_i64_in (by omega) (by omega)]; omega
    have hbl : (IntKind.i64.wrap (((l.getD x.1 0).toNat : Int) / 3 % 20)).toNat = (List.replicate ((l.getD x.1 0).toNat / 3 % 20) 0 : List UInt8).length := by rw [hbw, List.length_replicate, Int.toNat_natCast]
    have hbL : (List.replicate ((l.getD x.1 0).toNat / 3 % 20) 0 : List UInt8).length = (l.getD x.1 0).toNat / 3 % 20 := List.length_replicate
    have ca := append_does x.2 (((l.getD x.1 0).toNat % 3 : Nat) : Int) (List.replicate ((l.getD x.1 0).toNat / 3 % 20) 0) hok (by rw [hbL]; omega)
    rw [hbL] at hst
    rcases hst with ⟨hJ2, ⟨e1, e2, e3⟩ | ⟨e1, e2, e3⟩⟩
    · rw [e1] at ca
      have hcd : decide ((DK.used x.2 : Int) + (IntKind.i64.wrap (((l.getD x.1 0).toNat : Int) / 3 % 20)).toNat ≤ IntKind.i64.wrap (room.toNat : Int)) = true := decide_eq_true (by rw [hrw]; omega)
      have e4 : (DK.used (DK.appD x.2 (((l.getD x.1 0).toNat % 3 : Nat) : Int) (List.replicate ((l.getD x.1 0).toNat / 3 % 20) 0)) : Int) = (DK.used x.2 : Int) + (IntKind.i64.wrap (((l.getD x.1 0).toNat : Int) / 3 % 20)).toNat := by omega
      repeat' first
        | assumption
        | exact Bool.noConfusion hb
        | exact absurd hb (by decide)
        | (exfalso; omega)
        | exact absurd hcd.symm hb
        | exact absurd (hb.symm.trans hcd) (by decide)
        | (exfalso; simp at hb; done)
        | (refine W.toA (ih (x.1 + 1, DK.appD x.2 (((l.getD x.1 0).toNat % 3 : Nat) : Int) (List.replicate ((l.getD x.1 0).toNat / 3 % 20) 0)) ?_ ?_) ?_; rotate_left 2; (conv => whnf); refine ⟨rfl, rfl, rfl, rfl, rfl, rfl, ?_, ?_⟩; iterate 2 (focus ((repeat' apply And.intro) <;> first | exact trivial | (intro i _; rw [Nat.zero_add]; exact A.sim.refl _) | with_reducible exact rfl | exact fun _ _ => A.sim.refl _ | exact A.sim.refl _ | exact rfl | exact Nat.le_refl _ | omega | exact fun i _ => shift_sim _ _ i | exact fun _ _ => trivial | exact fun _ h => absurd h (Nat.not_lt_zero _) | exact e4 | exact e4.symm | exact hbl | exact hbl.symm | exact zeros_b _ | exact hfv | exact hfv.symm | exact ⟨rfl, rfl⟩)))
        | (refine W.retY TOK rfl rfl ⟨?_, ?_⟩)
        | (refine W.branch rfl (fun hb => ?_) (fun hb => ?_) <;> ((try simp only [decide_eq_true_eq, decide_eq_false_iff_not, Bool.not_eq_true', Bool.not_eq_false', Int.not_lt, Int.not_le, cond_true, cond_false, reduceCtorEq, Int.toNat_natCast, Int.reduceToNat, addI] at hb); (try replace hb := of_decide_eq_true hb); (try replace hb := of_decide_eq_false hb)))
        | (refine D.branch rfl (fun hb => ?_) (fun hb => ?_) <;> ((try simp only [decide_eq_true_eq, decide_eq_false_iff_not, Bool.not_eq_true', Bool.not_eq_false', Int.not_lt, Int.not_le, cond_true, cond_false, reduceCtorEq, Int.toNat_natCast, Int.reduceToNat, addI] at hb); (try replace hb := of_decide_eq_true hb); (try replace hb := of_decide_eq_false hb)))
        | ((first | (refine D.callA (ca) rfl rfl rfl rfl hΓ rfl ?_; (conv => whnf); refine ⟨rfl, rfl, rfl, ?_, ?_, ?_, ?_⟩) | (refine W.callA (ca) rfl rfl rfl rfl hΓ rfl ?_; (conv => whnf); refine ⟨rfl, rfl, ?_, ?_, ?_, ?_⟩)); iterate 3 (focus ((repeat' apply And.intro) <;> first | exact trivial | (intro i _; rw [Nat.zero_add]; exact A.sim.refl _) | with_reducible exact rfl | exact fun _ _ => A.sim.refl _ | exact A.sim.refl _ | exact rfl | exact Nat.le_refl _ | omega | exact fun i _ => shift_sim _ _ i | exact fun _ _ => trivial | exact fun _ h => absurd h (Nat.not_lt_zero _) | exact e4 | exact e4.symm | exact hbl | exact hbl.symm | exact zeros_b _ | exact hfv | exact hfv.symm | exact ⟨rfl, rfl⟩)); (conv => whnf))
        | (refine W.go TOK 88 hΓ 1000 rfl ?_; (conv => whnf); refine ⟨?_, ?_⟩)
        | (refine D.go TOK 88 hΓ 1000 rfl ?_; (conv => whnf); refine ⟨?_, ?_⟩)
        | (refine W.drawn rfl rfl ?_; refine D.run TOK 88 hΓ 1000 ?_; (conv => whnf); refine ⟨?_, ?_⟩)
      all_goals (repeat' apply And.intro)
      all_goals try (first
        | exact trivial
        | exact rfl
        | exact fun _ _ => A.sim.refl _
        | exact A.sim.refl _
        | exact Nat.le_refl _
        | omega
        | exact fun _ _ => trivial
        | exact fun i _ => shift_sim _ _ i
        | exact fun _ h => absurd h (Nat.not_lt_zero _)
        | exact fun i _ => isInt_byteAt _ i
        | (simp only [allP, List.nil_append, List.append_nil, List.cons_append, List.append_eq, and_true, true_and, inr_i64, inr_u8, inr_u64, min_i64, max_i64, min_u64, max_u64, min_u8, max_u8, A.purePL, A.pureP, A.sureP, A.surePL, Int.toNat_natCast, Int.reduceToNat, addI, cHi, cLo, hiN, loN, subO, addO, hasIdx, cond_true, cond_false]; first | done | omega | ((repeat' apply And.intro) <;> first | exact trivial | rfl | omega | decide))
        )
    · rw [e1] at ca
      have hcd : decide ((DK.used x.2 : Int) + (IntKind.i64.wrap (((l.getD x.1 0).toNat : Int) / 3 % 20)).toNat ≤ IntKind.i64.wrap (room.toNat : Int)) = false := decide_eq_false (by rw [hrw]; omega)
      have e4 : (DK.used (DK.appD x.2 (((l.getD x.1 0).toNat % 3 : Nat) : Int) (List.replicate ((l.getD x.1 0).toNat / 3 % 20) 0)) : Int) = (DK.used x.2 : Int) := by omega
      repeat' first
        | assumption
        | exact Bool.noConfusion hb
        | exact absurd hb (by decide)
        | (exfalso; omega)
        | exact absurd hcd.symm hb
        | exact absurd (hb.symm.trans hcd) (by decide)
        | (exfalso; simp at hb; done)
        | (refine W.toA (ih (x.1 + 1, DK.appD x.2 (((l.getD x.1 0).toNat % 3 : Nat) : Int) (List.replicate ((l.getD x.1 0).toNat / 3 % 20) 0)) ?_ ?_) ?_; rotate_left 2; (conv => whnf); refine ⟨rfl, rfl, rfl, rfl, rfl, rfl, ?_, ?_⟩; iterate 2 (focus ((repeat' apply And.intro) <;> first | exact trivial | (intro i _; rw [Nat.zero_add]; exact A.sim.refl _) | with_reducible exact rfl | exact fun _ _ => A.sim.refl _ | exact A.sim.refl _ | exact rfl | exact Nat.le_refl _ | omega | exact fun i _ => shift_sim _ _ i | exact fun _ _ => trivial | exact fun _ h => absurd h (Nat.not_lt_zero _) | exact e4 | exact e4.symm | exact hbl | exact hbl.symm | exact zeros_b _ | exact hfv | exact hfv.symm | exact ⟨rfl, rfl⟩)))
        | (refine W.retY TOK rfl rfl ⟨?_, ?_⟩)
        | (refine W.branch rfl (fun hb => ?_) (fun hb => ?_) <;> ((try simp only [decide_eq_true_eq, decide_eq_false_iff_not, Bool.not_eq_true', Bool.not_eq_false', Int.not_lt, Int.not_le, cond_true, cond_false, reduceCtorEq, Int.toNat_natCast, Int.reduceToNat, addI] at hb); (try replace hb := of_decide_eq_true hb); (try replace hb := of_decide_eq_false hb)))
        | (refine D.branch rfl (fun hb => ?_) (fun hb => ?_) <;> ((try simp only [decide_eq_true_eq, decide_eq_false_iff_not, Bool.not_eq_true', Bool.not_eq_false', Int.not_lt, Int.not_le, cond_true, cond_false, reduceCtorEq, Int.toNat_natCast, Int.reduceToNat, addI] at hb); (try replace hb := of_decide_eq_true hb); (try replace hb := of_decide_eq_false hb)))
        | ((first | (refine D.callA (ca) rfl rfl rfl rfl hΓ rfl ?_; (conv => whnf); refine ⟨rfl, rfl, rfl, ?_, ?_, ?_, ?_⟩) | (refine W.callA (ca) rfl rfl rfl rfl hΓ rfl ?_; (conv => whnf); refine ⟨rfl, rfl, ?_, ?_, ?_, ?_⟩)); iterate 3 (focus ((repeat' apply And.intro) <;> first | exact trivial | (intro i _; rw [Nat.zero_add]; exact A.sim.refl _) | with_reducible exact rfl | exact fun _ _ => A.sim.refl _ | exact A.sim.refl _ | exact rfl | exact Nat.le_refl _ | omega | exact fun i _ => shift_sim _ _ i | exact fun _ _ => trivial | exact fun _ h => absurd h (Nat.not_lt_zero _) | exact e4 | exact e4.symm | exact hbl | exact hbl.symm | exact zeros_b _ | exact hfv | exact hfv.symm | exact ⟨rfl, rfl⟩)); (conv => whnf))
        | (refine W.go TOK 88 hΓ 1000 rfl ?_; (conv => whnf); refine ⟨?_, ?_⟩)
        | (refine D.go TOK 88 hΓ 1000 rfl ?_; (conv => whnf); refine ⟨?_, ?_⟩)
        | (refine W.drawn rfl rfl ?_; refine D.run TOK 88 hΓ 1000 ?_; (conv => whnf); refine ⟨?_, ?_⟩)
      all_goals (repeat' apply And.intro)
      all_goals try (first
        | exact trivial
        | exact rfl
        | exact fun _ _ => A.sim.refl _
        | exact A.sim.refl _
        | exact Nat.le_refl _
        | omega
        | exact fun _ _ => trivial
        | exact fun i _ => shift_sim _ _ i
        | exact fun _ h => absurd h (Nat.not_lt_zero _)
        | exact fun i _ => isInt_byteAt _ i
        | (simp only [allP, List.nil_append, List.append_nil, List.cons_append, List.append_eq, and_true, true_and, inr_i64, inr_u8, inr_u64, min_i64, max_i64, min_u64, max_u64, min_u8, max_u8, A.purePL, A.pureP, A.sureP, A.surePL, Int.toNat_natCast, Int.reduceToNat, addI, cHi, cLo, hiN, loN, subO, addO, hasIdx, cond_true, cond_false]; first | done | omega | ((repeat' apply And.intro) <;> first | exact trivial | rfl | omega | decide))
        )
  · have hr : (DK.used x.2 : Int) = ((DK.readS x.2 0).length : Int) + ((DK.readS x.2 1).length : Int) + ((DK.readS x.2 2).length : Int) := rfl
    have ca := append_does x.2 3 [] hok (by decide)
    rw [show DK.appE x.2 3 [] = 36 from rfl, show DK.appD x.2 3 [] = x.2 from rfl] at ca
    have cs := sync_does x.2 (-1) hok
    rw [show DK.syncE x.2 (-1) = 36 from rfl, show DK.syncD x.2 (-1) = x.2 from rfl] at cs
    repeat' first
      | assumption
      | exact Bool.noConfusion hb
      | exact absurd hb (by decide)
      | (exfalso; omega)
      | (exfalso; simp at hb; done)
      | (refine W.retY TOK rfl rfl ⟨?_, ?_⟩)
      | (refine W.branch rfl (fun hb => ?_) (fun hb => ?_) <;> ((try simp only [decide_eq_true_eq, decide_eq_false_iff_not, Bool.not_eq_true', Bool.not_eq_false', Int.not_lt, Int.not_le, cond_true, cond_false, reduceCtorEq, Int.toNat_natCast, Int.reduceToNat, addI] at hb); (try replace hb := of_decide_eq_true hb); (try replace hb := of_decide_eq_false hb)))
      | (refine D.branch rfl (fun hb => ?_) (fun hb => ?_) <;> ((try simp only [decide_eq_true_eq, decide_eq_false_iff_not, Bool.not_eq_true', Bool.not_eq_false', Int.not_lt, Int.not_le, cond_true, cond_false, reduceCtorEq, Int.toNat_natCast, Int.reduceToNat, addI] at hb); (try replace hb := of_decide_eq_true hb); (try replace hb := of_decide_eq_false hb)))
      | ((first | (refine D.callA (read_does x.2 0 hok) rfl rfl rfl rfl hΓ rfl ?_; (conv => whnf); refine ⟨rfl, rfl, rfl, ?_, ?_, ?_, ?_⟩) | (refine W.callA (read_does x.2 0 hok) rfl rfl rfl rfl hΓ rfl ?_; (conv => whnf); refine ⟨rfl, rfl, ?_, ?_, ?_, ?_⟩)); iterate 3 (focus ((repeat' apply And.intro) <;> first | exact trivial | (intro i _; rw [Nat.zero_add]; exact A.sim.refl _) | with_reducible exact rfl | exact fun _ _ => A.sim.refl _ | exact A.sim.refl _ | exact rfl | exact Nat.le_refl _ | omega | exact fun i _ => shift_sim _ _ i | exact fun _ _ => trivial | exact fun _ h => absurd h (Nat.not_lt_zero _) | exact ⟨rfl, rfl⟩)); (conv => whnf))
      | ((first | (refine D.callA (read_does x.2 1 hok) rfl rfl rfl rfl hΓ rfl ?_; (conv => whnf); refine ⟨rfl, rfl, rfl, ?_, ?_, ?_, ?_⟩) | (refine W.callA (read_does x.2 1 hok) rfl rfl rfl rfl hΓ rfl ?_; (conv => whnf); refine ⟨rfl, rfl, ?_, ?_, ?_, ?_⟩)); iterate 3 (focus ((repeat' apply And.intro) <;> first | exact trivial | (intro i _; rw [Nat.zero_add]; exact A.sim.refl _) | with_reducible exact rfl | exact fun _ _ => A.sim.refl _ | exact A.sim.refl _ | exact rfl | exact Nat.le_refl _ | omega | exact fun i _ => shift_sim _ _ i | exact fun _ _ => trivial | exact fun _ h => absurd h (Nat.not_lt_zero _) | exact ⟨rfl, rfl⟩)); (conv => whnf))
      | ((first | (refine D.callA (read_does x.2 2 hok) rfl rfl rfl rfl hΓ rfl ?_; (conv => whnf); refine ⟨rfl, rfl, rfl, ?_, ?_, ?_, ?_⟩) | (refine W.callA (read_does x.2 2 hok) rfl rfl rfl rfl hΓ rfl ?_; (conv => whnf); refine ⟨rfl, rfl, ?_, ?_, ?_, ?_⟩)); iterate 3 (focus ((repeat' apply And.intro) <;> first | exact trivial | (intro i _; rw [Nat.zero_add]; exact A.sim.refl _) | with_reducible exact rfl | exact fun _ _ => A.sim.refl _ | exact A.sim.refl _ | exact rfl | exact Nat.le_refl _ | omega | exact fun i _ => shift_sim _ _ i | exact fun _ _ => trivial | exact fun _ h => absurd h (Nat.not_lt_zero _) | exact ⟨rfl, rfl⟩)); (conv => whnf))
      | ((first | (refine D.callA (ca) rfl rfl rfl rfl hΓ rfl ?_; (conv => whnf); refine ⟨rfl, rfl, rfl, ?_, ?_, ?_, ?_⟩) | (refine W.callA (ca) rfl rfl rfl rfl hΓ rfl ?_; (conv => whnf); refine ⟨rfl, rfl, ?_, ?_, ?_, ?_⟩)); iterate 3 (focus ((repeat' apply And.intro) <;> first | exact trivial | (intro i _; rw [Nat.zero_add]; exact A.sim.refl _) | with_reducible exact rfl | exact fun _ _ => A.sim.refl _ | exact A.sim.refl _ | exact rfl | exact Nat.le_refl _ | omega | exact fun i _ => shift_sim _ _ i | exact fun _ _ => trivial | exact fun _ h => absurd h (Nat.not_lt_zero _) | exact ⟨rfl, rfl⟩)); (conv => whnf))
      | ((first | (refine D.callA (cs) rfl rfl rfl rfl hΓ rfl ?_; (conv => whnf); refine ⟨rfl, rfl, rfl, ?_, ?_, ?_, ?_⟩) | (refine W.callA (cs) rfl rfl rfl rfl hΓ rfl ?_; (conv => whnf); refine ⟨rfl, rfl, ?_, ?_, ?_, ?_⟩)); iterate 3 (focus ((repeat' apply And.intro) <;> first | exact trivial | (intro i _; rw [Nat.zero_add]; exact A.sim.refl _) | with_reducible exact rfl | exact fun _ _ => A.sim.refl _ | exact A.sim.refl _ | exact rfl | exact Nat.le_refl _ | omega | exact fun i _ => shift_sim _ _ i | exact fun _ _ => trivial | exact fun _ h => absurd h (Nat.not_lt_zero _) | exact ⟨rfl, rfl⟩)); (conv => whnf))
      | (refine W.go TOK 88 hΓ 1000 rfl ?_; (conv => whnf); refine ⟨?_, ?_⟩)
      | (refine D.go TOK 88 hΓ 1000 rfl ?_; (conv => whnf); refine ⟨?_, ?_⟩)
      | (refine W.drawn rfl rfl ?_; refine D.run TOK 88 hΓ 1000 ?_; (conv => whnf); refine ⟨?_, ?_⟩)
    all_goals (repeat' apply And.intro)
    all_goals try (first
      | exact trivial
      | exact rfl
      | exact fun _ _ => A.sim.refl _
      | exact A.sim.refl _
      | exact Nat.le_refl _
      | omega
      | exact fun _ _ => trivial
      | exact fun i _ => shift_sim _ _ i
      | exact fun _ h => absurd h (Nat.not_lt_zero _)
      | exact fun i _ => isInt_byteAt _ i
      | (simp only [allP, List.nil_append, List.append_nil, List.cons_append, List.append_eq, and_true, true_and, inr_i64, inr_u8, inr_u64, min_i64, max_i64, min_u64, max_u64, min_u8, max_u8, A.purePL, A.pureP, A.sureP, A.surePL, Int.toNat_natCast, Int.reduceToNat, addI, cHi, cLo, hiN, loN, subO, addO, hasIdx, cond_true, cond_false]; first | done | omega | ((repeat' apply And.intro) <;> first | exact trivial | rfl | omega | decide))
      )

theorem diskRooms_law (x0 x1 : A) (s0 : Shaped (.int .u8) x0) (s1 : Shaped (.slice (.int .u8)) x1) : Does Try.prog 6 [x0, x1] [] [] Yes := by
  obtain ⟨a0, e0, h0⟩ := Rep.byte x0 s0
  obtain ⟨a1, e1, h1⟩ := Rep.bytes x1 s1
  exact Does.args (ys := [VX.byte a0, bytesA a1]) ⟨e0, e1, trivial⟩ ⟨s0.pure, s1.pure, trivial⟩ (rooms_does a0 a1)
end Go.Proofs.Ytiapjcncfoefeaa
