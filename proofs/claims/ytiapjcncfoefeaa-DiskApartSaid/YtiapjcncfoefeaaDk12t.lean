/- Walks: the statements of layer 12. -/
import Derived.Test.YtiapjcncfoefeaaDk12k
set_option linter.unusedSimpArgs false
set_option linter.unusedVariables false
namespace Go.Proofs.Ytiapjcncfoefeaa
open VX
set_option maxRecDepth 100000
set_option maxHeartbeats 4000000
def Ta : Tab := { l := tabL, frz := [75], stop := [14] }
theorem TaOK : TabOK Try.prog Ta.l := tabOK
def Tf : Tab := { l := tabL, frz := [75] }
theorem TfOK : TabOK Try.prog Tf.l := tabOK
theorem nils_sim (sz : Nat) (g : Nat → A) : A.nils.sim (.ro sz 0 g) := by
  refine ⟨rfl, rfl, fun _ _ => ⟨trivial, trivial⟩, fun _ _ I vs hr => ?_⟩
  simp only [A.cells] at hr ⊢
  obtain ⟨u, rfl, h1⟩ := hr.one_inv
  cases h1.nils_inv
  exact .cons .ro0 .nil
theorem sim3 {g h : Nat → A} (h0 : (g 0).sim (h 0)) (h1 : (g 1).sim (h 1)) (h2 : (g 2).sim (h 2)) : ∀ i, i < 3 → (g i).sim (h i)
  | 0, _ => h0
  | 1, _ => h1
  | 2, _ => h2
structure ApartJ (l : List (List UInt8)) (x : Nat × DK.D) : Prop where
  i : x.1 ≤ l.length
  fl : x.2.fail = -1
  rm : x.2.room = 1048576
  b0 : x.2.f0.b.length ≤ 20 * x.1
  b1 : x.2.f1.b.length ≤ 20 * x.1
  b2 : x.2.f2.b.length ≤ 20 * x.1
  p0 : x.2.f0.ps.length ≤ x.1
  p1 : x.2.f1.ps.length ≤ x.1
  p2 : x.2.f2.ps.length ≤ x.1
theorem ApartJ.ok {l : List (List UInt8)} {x : Nat × DK.D} (h : ApartJ l x) (hl : l.length ≤ 20) : DK.Ok x.2 := by
  have h1 := h.i; have h2 := h.fl; have h3 := h.rm; have := h.b0; have := h.b1; have := h.b2; have := h.p0; have := h.p1; have := h.p2
  exact ⟨by omega, by omega, by omega, by omega, by omega, by omega, by omega, by omega, by omega, by omega⟩
theorem ApartJ.fd {l : List (List UInt8)} {x : Nat × DK.D} (h : ApartJ l x) : DK.failD x.2 = x.2 := by
  have := h.fl
  cases hx : x.2 with
  | mk a b c d e => rw [hx] at this; simp only [DK.failD] at this ⊢; rw [this]; rfl
theorem ApartJ.app {l : List (List UInt8)} {x : Nat × DK.D} (h : ApartJ l x) (hl : l.length ≤ 20) (hi : x.1 < l.length) (q : Nat) (hq : q < 3) (b : List UInt8) (hb : b.length ≤ 20) :
    DK.appE x.2 q b = 0 ∧ DK.appD x.2 q b = DK.set x.2 q (DK.appF (DK.get x.2 q) b) ∧ ApartJ l (x.1 + 1, DK.set x.2 q (DK.appF (DK.get x.2 q) b)) := by
  have h1 := h.i; have h2 := h.fl; have h3 := h.rm; have c0 := h.b0; have c1 := h.b1; have c2 := h.b2; have e0 := h.p0; have e1 := h.p1; have e2 := h.p2
  have hno : ¬ DK.no (q : Int) = true := by simp [DK.no]; omega
  have hfb : ¬ DK.failB x.2 = true := by simp [DK.failB, h2]
  have hu : ¬ x.2.room - (DK.used x.2 : Int) < b.length := by unfold DK.used; omega
  refine ⟨(if_neg hno).trans ((if_neg hfb).trans (if_neg hu)), ?_, ?_⟩
  · refine ((if_neg hno).trans ((if_neg hfb).trans (if_neg hu))).trans ?_
    rw [h.fd, Int.toNat_natCast]
  · match q, hq with
    | 0, _ => exact ⟨hi, h2, h3, by simp only [DK.set, DK.get, DK.appF_len]; omega, by simp only [DK.set]; omega, by simp only [DK.set]; omega, by simp only [DK.set, DK.get, DK.appF, List.length_append, List.length_cons, List.length_nil]; omega, by simp only [DK.set]; omega, by simp only [DK.set]; omega⟩
    | 1, _ => exact ⟨hi, h2, h3, by simp only [DK.set]; omega, by simp only [DK.set, DK.get, DK.appF_len]; omega, by simp only [DK.set]; omega, by simp only [DK.set]; omega, by simp only [DK.set, DK.get, DK.appF, List.length_append, List.length_cons, List.length_nil]; omega, by simp only [DK.set]; omega⟩
    | 2, _ => exact ⟨hi, h2, h3, by simp only [DK.set]; omega, by simp only [DK.set]; omega, by simp only [DK.set, DK.get, DK.appF_len]; omega, by simp only [DK.set]; omega, by simp only [DK.set]; omega, by simp only [DK.set, DK.get, DK.appF, List.length_append, List.length_cons, List.length_nil]; omega⟩
theorem ApartJ.sync {l : List (List UInt8)} {x : Nat × DK.D} (h : ApartJ l x) (hi : x.1 < l.length) (q : Nat) (hq : q < 3) :
    DK.syncE x.2 q = 0 ∧ DK.syncD x.2 q = DK.set x.2 q (DK.syncF (DK.get x.2 q)) ∧ ApartJ l (x.1 + 1, DK.set x.2 q (DK.syncF (DK.get x.2 q))) := by
  have h1 := h.i; have h2 := h.fl; have h3 := h.rm; have c0 := h.b0; have c1 := h.b1; have c2 := h.b2; have e0 := h.p0; have e1 := h.p1; have e2 := h.p2
  have hno : ¬ DK.no (q : Int) = true := by simp [DK.no]; omega
  have hfb : ¬ DK.failB x.2 = true := by simp [DK.failB, h2]
  refine ⟨(if_neg hno).trans (if_neg hfb), ?_, ?_⟩
  · refine ((if_neg hno).trans (if_neg hfb)).trans ?_
    rw [h.fd, Int.toNat_natCast]
  · match q, hq with
    | 0, _ => exact ⟨hi, h2, h3, by simp only [DK.set, DK.get, sync_b]; omega, by simp only [DK.set]; omega, by simp only [DK.set]; omega, Nat.zero_le _, by simp only [DK.set]; omega, by simp only [DK.set]; omega⟩
    | 1, _ => exact ⟨hi, h2, h3, by simp only [DK.set]; omega, by simp only [DK.set, DK.get, sync_b]; omega, by simp only [DK.set]; omega, by simp only [DK.set]; omega, Nat.zero_le _, by simp only [DK.set]; omega⟩
    | 2, _ => exact ⟨hi, h2, h3, by simp only [DK.set]; omega, by simp only [DK.set]; omega, by simp only [DK.set, DK.get, sync_b]; omega, by simp only [DK.set]; omega, by simp only [DK.set]; omega, Nat.zero_le _⟩
theorem apart_app (x : DK.F) (b : List UInt8) : A.ro 1 (x.b.length + b.length) (catF x.b.length (byteAt x.b) (byteAt b)) = bytesA (DK.appF x b).b := by
  show A.ro 1 _ _ = A.ro 1 _ _
  rw [DK.appF_b, cat_fun rfl, List.length_append]
theorem isInt_cat (n : Nat) (l m : List UInt8) (i : Nat) : isInt .u8 (catF n (byteAt l) (byteAt m) i) := by
  by_cases h : i < n
  · rw [catF_lt h]; exact ⟨_, rfl⟩
  · rw [catF_ge (by omega)]; exact ⟨_, rfl⟩
theorem apart_str (x : DK.F) (b : List UInt8) : bytesOf (DK.appF x b).b.length (byteAt (DK.appF x b).b) = bytesOf (x.b.length + b.length) (catF x.b.length (byteAt x.b) (byteAt b)) := by
  rw [DK.appF_b, cat_fun rfl, List.length_append]
theorem sync_str (x : DK.F) : bytesOf (DK.syncF x).b.length (byteAt (DK.syncF x).b) = bytesOf x.b.length (byteAt x.b) := by rw [sync_b]
theorem cut_str (x : DK.F) : bytesOf (DK.F.b ⟨x.s, []⟩).length (byteAt (DK.F.b ⟨x.s, []⟩)) = bytesOf x.s.length (byteAt x.b) := by
  rw [bytes_fun rfl, bytes_take (DK.sure_le x)]
  show x.s ++ [] = (x.s ++ x.ps.flatten).take x.s.length
  rw [List.append_nil, List.take_left]
theorem sync_bytes (x : DK.F) : bytesA x.b = bytesA (DK.syncF x).b := by rw [sync_b]
theorem sync_sure (x : DK.F) : (x.b.length : Int) = ((DK.syncF x).s.length : Nat) := rfl
theorem lastB_zero : ∀ k, DK.lastB 0 k = -1
  | 0 => rfl
  | k + 1 => by
    unfold DK.lastB
    rw [if_neg (by simp)]
    exact lastB_zero k
theorem crash_zero (d : DK.D) : DK.crashD d 0 (-1) = ⟨⟨d.f0.s, []⟩, ⟨d.f1.s, []⟩, ⟨d.f2.s, []⟩, d.room, -1⟩ := by
  have h : ∀ x : DK.F, DK.crashF 0 (-1) x = ⟨x.s, []⟩ := fun x => by
    unfold DK.crashF DK.lastOf
    rw [lastB_zero]
    show (⟨x.s ++ [], []⟩ : DK.F) = _
    rw [List.append_nil]
  unfold DK.crashD
  rw [h, h, h]

theorem apart_does (l : List (List UInt8)) (fs : List UInt8) : Does Try.prog 7 [sl 1 bytesA l, bytesA fs] [] [] Yes := by
  have c0 : Does Try.prog 9 [.int .i64 1048576] [] [1, 2, 3, 4, 5, 6, 7] (Is (.ptr 1 []) (diskR 1 2 3 4 5 6 7 (DK.newD 1048576))) := newd_does 1048576
  refine Does.intro (fn := Try.f7) Try.func7 rfl rfl fun Γ hΓ => ?_
  refine W.run TfOK 118 hΓ 1000 ?_
  conv => whnf
  refine ⟨?_, ?_⟩
  repeat' first
    | assumption
    | exact Bool.noConfusion hb
    | exact absurd hb (by decide)
    | (exfalso; omega)
    | (exfalso; simp at hb; done)
    | (refine W.retY TfOK rfl rfl ⟨?_, ?_⟩)
    | (refine W.branch rfl (fun hb => ?_) (fun hb => ?_) <;> ((try simp only [decide_eq_true_eq, decide_eq_false_iff_not, Bool.not_eq_true', Bool.not_eq_false', Int.not_lt, Int.not_le, cond_true, cond_false, reduceCtorEq, Int.toNat_natCast, Int.reduceToNat, addI] at hb); (try replace hb := of_decide_eq_true hb); (try replace hb := of_decide_eq_false hb)))
    | (refine D.branch rfl (fun hb => ?_) (fun hb => ?_) <;> ((try simp only [decide_eq_true_eq, decide_eq_false_iff_not, Bool.not_eq_true', Bool.not_eq_false', Int.not_lt, Int.not_le, cond_true, cond_false, reduceCtorEq, Int.toNat_natCast, Int.reduceToNat, addI] at hb); (try replace hb := of_decide_eq_true hb); (try replace hb := of_decide_eq_false hb)))
    | ((first | (refine D.callA (known_does) rfl rfl rfl rfl hΓ rfl ?_; (conv => whnf); refine ⟨rfl, rfl, rfl, ?_, ?_, ?_, ?_⟩) | (refine W.callA (known_does) rfl rfl rfl rfl hΓ rfl ?_; (conv => whnf); refine ⟨rfl, rfl, ?_, ?_, ?_, ?_⟩)); iterate 3 (focus ((repeat' apply And.intro) <;> first | exact trivial | (intro i _; rw [Nat.zero_add]; exact A.sim.refl _) | with_reducible exact rfl | exact fun _ _ => A.sim.refl _ | exact A.sim.refl _ | exact rfl | exact Nat.le_refl _ | omega | exact fun i _ => shift_sim _ _ i | exact fun _ _ => trivial | exact fun _ h => absurd h (Nat.not_lt_zero _) | exact ⟨rfl, rfl⟩)); (conv => whnf))
    | ((first | (refine D.callA (c0) rfl rfl rfl rfl hΓ rfl ?_; (conv => whnf); refine ⟨rfl, rfl, rfl, ?_, ?_, ?_, ?_⟩) | (refine W.callA (c0) rfl rfl rfl rfl hΓ rfl ?_; (conv => whnf); refine ⟨rfl, rfl, ?_, ?_, ?_, ?_⟩)); iterate 3 (focus ((repeat' apply And.intro) <;> first | exact trivial | (intro i _; rw [Nat.zero_add]; exact A.sim.refl _) | with_reducible exact rfl | exact fun _ _ => A.sim.refl _ | exact A.sim.refl _ | exact rfl | exact Nat.le_refl _ | omega | exact fun i _ => shift_sim _ _ i | exact fun _ _ => trivial | exact fun _ h => absurd h (Nat.not_lt_zero _) | exact ⟨rfl, rfl⟩)); (conv => whnf))
    | (refine W.go TfOK 118 hΓ 1000 rfl ?_; (conv => whnf); refine ⟨?_, ?_⟩)
    | (refine D.go TfOK 118 hΓ 1000 rfl ?_; (conv => whnf); refine ⟨?_, ?_⟩)
    | (refine W.drawn rfl rfl ?_; refine D.run TfOK 118 hΓ 1000 ?_; (conv => whnf); refine ⟨?_, ?_⟩)
  all_goals (repeat' apply And.intro)
  all_goals try (first
    | exact trivial
    | exact rfl
    | exact fun _ _ => A.sim.refl _
    | exact A.sim.refl _
    | exact Nat.le_refl _
    | omega
    | exact fun _ _ => trivial
    | exact fun i _ => shift_sim _ _ i
    | exact fun _ h => absurd h (Nat.not_lt_zero _)
    | exact fun i _ => isInt_byteAt _ i
    | (simp only [allP, List.nil_append, List.append_nil, List.cons_append, List.append_eq, and_true, true_and, inr_i64, inr_u8, inr_u64, min_i64, max_i64, min_u64, max_u64, min_u8, max_u8, A.purePL, A.pureP, A.sureP, A.surePL, Int.toNat_natCast, Int.reduceToNat, addI, cHi, cLo, hiN, loN, subO, addO, hasIdx, cond_true, cond_false]; first | done | omega | ((repeat' apply And.intro) <;> first | exact trivial | rfl | omega | decide))
    )
  refine W.loopA (Nat × DK.D) (ApartJ l) (fun x => l.length - x.1) (fun x => [(5, .ptr 700 []), (8, .int .i64 (x.1 : Nat))]) (fun x => (6, some (.var (.vec 1 3 fun k => bytesA (DK.get x.2 k).b))) :: (7, some (.var (.vec 1 3 fun k => .int .i64 ((DK.get x.2 k).s.length : Nat)))) :: diskR 700 701 702 703 704 705 706 x.2) [] ((0, DK.newD 1048576)) (⟨Nat.zero_le _, rfl, rfl, Nat.le_refl _, Nat.le_refl _, Nat.le_refl _, Nat.le_refl _, Nat.le_refl _, Nat.le_refl _⟩) ?_
  (conv => whnf); refine ⟨?_, ?_⟩; focus ((conv => whnf); refine ⟨rfl, rfl, rfl, rfl, rfl, rfl, ?_, ?_⟩; iterate 2 (focus ((repeat' apply And.intro) <;> first | exact trivial | (intro i _; rw [Nat.zero_add]; exact A.sim.refl _) | with_reducible exact rfl | exact fun _ _ => A.sim.refl _ | exact A.sim.refl _ | exact rfl | exact Nat.le_refl _ | omega | exact fun i _ => shift_sim _ _ i | exact fun _ _ => trivial | exact fun _ h => absurd h (Nat.not_lt_zero _) | exact ⟨rfl, rfl⟩ | exact sim3 (nils_sim _ _) (nils_sim _ _) (nils_sim _ _) | exact sim3 (A.sim.of (rfl)) (A.sim.of rfl) (A.sim.of rfl))))
  rintro x hJ ih
  have hi := hJ.i
  by_cases hl20 : l.length ≤ 20
  rotate_left
  · exfalso; omega
  have hok := hJ.ok hl20
  by_cases hil : x.1 < l.length
  · by_cases hx : (l.getD x.1 []).length ≤ 20
    · have q8 := (fs.getD x.1 0).toNat_lt
      have hq3 : (fs.getD x.1 0).toNat % 3 = 0 ∨ (fs.getD x.1 0).toNat % 3 = 1 ∨ (fs.getD x.1 0).toNat % 3 = 2 := by omega
      have hb0 := hJ.b0
      have hb1 := hJ.b1
      have hb2 := hJ.b2
      repeat' first
        | assumption
        | exact Bool.noConfusion hb
        | exact absurd hb (by decide)
        | (exfalso; omega)
        | (exfalso; simp at hb; done)
        | (exfalso; have hb2 : 20 < ((l.getD x.1 []).length : Int) := hb; omega)
        | (refine W.retY TaOK rfl rfl ⟨?_, ?_⟩)
        | (refine W.branch rfl (fun hb => ?_) (fun hb => ?_) <;> ((try simp only [decide_eq_true_eq, decide_eq_false_iff_not, Bool.not_eq_true', Bool.not_eq_false', Int.not_lt, Int.not_le, cond_true, cond_false, reduceCtorEq, Int.toNat_natCast, Int.reduceToNat, addI] at hb); (try replace hb := of_decide_eq_true hb); (try replace hb := of_decide_eq_false hb)))
        | (refine D.branch rfl (fun hb => ?_) (fun hb => ?_) <;> ((try simp only [decide_eq_true_eq, decide_eq_false_iff_not, Bool.not_eq_true', Bool.not_eq_false', Int.not_lt, Int.not_le, cond_true, cond_false, reduceCtorEq, Int.toNat_natCast, Int.reduceToNat, addI] at hb); (try replace hb := of_decide_eq_true hb); (try replace hb := of_decide_eq_false hb)))
        | (refine W.go TaOK 118 hΓ 1000 rfl ?_; (conv => whnf); refine ⟨?_, ?_⟩)
        | (refine D.go TaOK 118 hΓ 1000 rfl ?_; (conv => whnf); refine ⟨?_, ?_⟩)
        | (refine W.drawn rfl rfl ?_; refine D.run TaOK 118 hΓ 1000 ?_; (conv => whnf); refine ⟨?_, ?_⟩)
      all_goals (repeat' apply And.intro)
      all_goals try (first
        | exact trivial
        | exact rfl
        | exact fun _ _ => A.sim.refl _
        | exact A.sim.refl _
        | exact Nat.le_refl _
        | omega
        | exact fun _ _ => trivial
        | exact fun i _ => shift_sim _ _ i
        | exact fun _ h => absurd h (Nat.not_lt_zero _)
        | exact fun i _ => isInt_byteAt _ i
        | (simp only [allP, List.nil_append, List.append_nil, List.cons_append, List.append_eq, and_true, true_and, inr_i64, inr_u8, inr_u64, min_i64, max_i64, min_u64, max_u64, min_u8, max_u8, A.purePL, A.pureP, A.sureP, A.surePL, Int.toNat_natCast, Int.reduceToNat, addI, cHi, cLo, hiN, loN, subO, addO, hasIdx, cond_true, cond_false]; first | done | omega | ((repeat' apply And.intro) <;> first | exact trivial | rfl | omega | decide))
        )
      rcases hq3 with hq | hq | hq
      · have hfv : IntKind.i64.wrap (((fs.getD x.1 0).toNat : Int) % 3) = 0 := by rw [wrap_i64_in (by omega) (by omega)]; omega
        refine W.seeA ([(9, .int .i64 0)]) ([]) [] ?_
        (conv => whnf); refine ⟨?_, ?_⟩; focus ((conv => whnf); refine ⟨rfl, rfl, rfl, rfl, rfl, rfl, ?_, ?_⟩; iterate 2 (focus ((repeat' apply And.intro) <;> first | exact trivial | (intro i _; rw [Nat.zero_add]; exact A.sim.refl _) | with_reducible exact rfl | exact fun _ _ => A.sim.refl _ | exact A.sim.refl _ | exact rfl | exact Nat.le_refl _ | omega | exact fun i _ => shift_sim _ _ i | exact fun _ _ => trivial | exact fun _ h => absurd h (Nat.not_lt_zero _) | exact hfv)))
        by_cases h200 : 200 ≤ (fs.getD x.1 0).toNat
        · have hst := hJ.sync hil 0 (by decide)
          have hok2 := hst.2.2.ok hl20
          have ca := sync_does x.2 ((0 : Nat) : Int) hok
          rw [hst.1, hst.2.1] at ca
          repeat' first
            | assumption
            | exact Bool.noConfusion hb
            | exact absurd hb (by decide)
            | (refine W.toA (ih (x.1 + 1, (DK.set x.2 0 (DK.syncF (DK.get x.2 0)))) ?_ ?_) ?_; rotate_left 2; (conv => whnf); refine ⟨rfl, rfl, rfl, rfl, rfl, rfl, ?_, ?_⟩; iterate 2 (focus ((repeat' apply And.intro) <;> first | exact trivial | (intro i _; rw [Nat.zero_add]; exact A.sim.refl _) | with_reducible exact rfl | exact fun _ _ => A.sim.refl _ | exact A.sim.refl _ | exact rfl | exact Nat.le_refl _ | omega | exact fun i _ => shift_sim _ _ i | exact fun _ _ => trivial | exact fun _ h => absurd h (Nat.not_lt_zero _) | exact ⟨rfl, rfl⟩ | exact sim3 (A.sim.of (sync_bytes _)) (A.sim.of rfl) (A.sim.of rfl) | exact sim3 (A.sim.of (rfl)) (A.sim.of rfl) (A.sim.of rfl))))
            | (exfalso; omega)
            | (refine W.enter ?_)
            | (refine W.again ?_)
            | (exfalso; simp at hb; done)
            | (exfalso; have hb2 : (200 : Int) ≤ ((fs.getD x.1 0).toNat : Int) := hb; omega)
            | (exfalso; have hb2 : ((fs.getD x.1 0).toNat : Int) < 200 := hb; omega)
            | exact absurd rfl hb
            | exact absurd (sync_str _) hb
            | (refine W.retY TfOK rfl rfl ⟨?_, ?_⟩)
            | (refine W.branch rfl (fun hb => ?_) (fun hb => ?_) <;> ((try simp only [decide_eq_true_eq, decide_eq_false_iff_not, Bool.not_eq_true', Bool.not_eq_false', Int.not_lt, Int.not_le, cond_true, cond_false, reduceCtorEq, Int.toNat_natCast, Int.reduceToNat, addI] at hb); (try replace hb := of_decide_eq_true hb); (try replace hb := of_decide_eq_false hb)))
            | (refine D.branch rfl (fun hb => ?_) (fun hb => ?_) <;> ((try simp only [decide_eq_true_eq, decide_eq_false_iff_not, Bool.not_eq_true', Bool.not_eq_false', Int.not_lt, Int.not_le, cond_true, cond_false, reduceCtorEq, Int.toNat_natCast, Int.reduceToNat, addI] at hb); (try replace hb := of_decide_eq_true hb); (try replace hb := of_decide_eq_false hb)))
            | ((first | (refine D.callA (ca) rfl rfl rfl rfl hΓ rfl ?_; (conv => whnf); refine ⟨rfl, rfl, rfl, ?_, ?_, ?_, ?_⟩) | (refine W.callA (ca) rfl rfl rfl rfl hΓ rfl ?_; (conv => whnf); refine ⟨rfl, rfl, ?_, ?_, ?_, ?_⟩)); iterate 3 (focus ((repeat' apply And.intro) <;> first | exact trivial | (intro i _; rw [Nat.zero_add]; exact A.sim.refl _) | with_reducible exact rfl | exact fun _ _ => A.sim.refl _ | exact A.sim.refl _ | exact rfl | exact Nat.le_refl _ | omega | exact fun i _ => shift_sim _ _ i | exact fun _ _ => trivial | exact fun _ h => absurd h (Nat.not_lt_zero _) | exact ⟨rfl, rfl⟩ | exact sim3 (A.sim.of (sync_bytes _)) (A.sim.of rfl) (A.sim.of rfl) | exact sim3 (A.sim.of (rfl)) (A.sim.of rfl) (A.sim.of rfl))); (conv => whnf))
            | (refine D.callAR (read_does (DK.set x.2 0 (DK.syncF (DK.get x.2 0))) 0 hok2) rfl rfl rfl rfl hΓ rfl ?_; (conv => whnf); refine ⟨rfl, rfl, rfl, rfl, ?_, ?_, ?_, ?_, ?_⟩; iterate 4 (focus ((repeat' apply And.intro) <;> first | exact trivial | (intro i _; rw [Nat.zero_add]; exact A.sim.refl _) | with_reducible exact rfl | exact fun _ _ => A.sim.refl _ | exact A.sim.refl _ | exact rfl | exact Nat.le_refl _ | omega | exact fun i _ => shift_sim _ _ i | exact fun _ _ => trivial | exact fun _ h => absurd h (Nat.not_lt_zero _) | exact ⟨rfl, rfl⟩ | exact sim3 (A.sim.of (sync_bytes _)) (A.sim.of rfl) (A.sim.of rfl) | exact sim3 (A.sim.of (rfl)) (A.sim.of rfl) (A.sim.of rfl))); (conv => whnf))
            | (refine W.callA (read_does (DK.set x.2 0 (DK.syncF (DK.get x.2 0))) 0 hok2) rfl rfl rfl rfl hΓ rfl ?_; (conv => whnf); refine ⟨rfl, rfl, ?_, ?_, ?_, ?_⟩; iterate 3 (focus ((repeat' apply And.intro) <;> first | exact trivial | (intro i _; rw [Nat.zero_add]; exact A.sim.refl _) | with_reducible exact rfl | exact fun _ _ => A.sim.refl _ | exact A.sim.refl _ | exact rfl | exact Nat.le_refl _ | omega | exact fun i _ => shift_sim _ _ i | exact fun _ _ => trivial | exact fun _ h => absurd h (Nat.not_lt_zero _) | exact ⟨rfl, rfl⟩ | exact sim3 (A.sim.of (sync_bytes _)) (A.sim.of rfl) (A.sim.of rfl) | exact sim3 (A.sim.of (rfl)) (A.sim.of rfl) (A.sim.of rfl))); (conv => whnf))
            | (refine D.callAR (read_does (DK.set x.2 0 (DK.syncF (DK.get x.2 0))) 1 hok2) rfl rfl rfl rfl hΓ rfl ?_; (conv => whnf); refine ⟨rfl, rfl, rfl, rfl, ?_, ?_, ?_, ?_, ?_⟩; iterate 4 (focus ((repeat' apply And.intro) <;> first | exact trivial | (intro i _; rw [Nat.zero_add]; exact A.sim.refl _) | with_reducible exact rfl | exact fun _ _ => A.sim.refl _ | exact A.sim.refl _ | exact rfl | exact Nat.le_refl _ | omega | exact fun i _ => shift_sim _ _ i | exact fun _ _ => trivial | exact fun _ h => absurd h (Nat.not_lt_zero _) | exact ⟨rfl, rfl⟩ | exact sim3 (A.sim.of (sync_bytes _)) (A.sim.of rfl) (A.sim.of rfl) | exact sim3 (A.sim.of (rfl)) (A.sim.of rfl) (A.sim.of rfl))); (conv => whnf))
            | (refine W.callA (read_does (DK.set x.2 0 (DK.syncF (DK.get x.2 0))) 1 hok2) rfl rfl rfl rfl hΓ rfl ?_; (conv => whnf); refine ⟨rfl, rfl, ?_, ?_, ?_, ?_⟩; iterate 3 (focus ((repeat' apply And.intro) <;> first | exact trivial | (intro i _; rw [Nat.zero_add]; exact A.sim.refl _) | with_reducible exact rfl | exact fun _ _ => A.sim.refl _ | exact A.sim.refl _ | exact rfl | exact Nat.le_refl _ | omega | exact fun i _ => shift_sim _ _ i | exact fun _ _ => trivial | exact fun _ h => absurd h (Nat.not_lt_zero _) | exact ⟨rfl, rfl⟩ | exact sim3 (A.sim.of (sync_bytes _)) (A.sim.of rfl) (A.sim.of rfl) | exact sim3 (A.sim.of (rfl)) (A.sim.of rfl) (A.sim.of rfl))); (conv => whnf))
            | (refine D.callAR (read_does (DK.set x.2 0 (DK.syncF (DK.get x.2 0))) 2 hok2) rfl rfl rfl rfl hΓ rfl ?_; (conv => whnf); refine ⟨rfl, rfl, rfl, rfl, ?_, ?_, ?_, ?_, ?_⟩; iterate 4 (focus ((repeat' apply And.intro) <;> first | exact trivial | (intro i _; rw [Nat.zero_add]; exact A.sim.refl _) | with_reducible exact rfl | exact fun _ _ => A.sim.refl _ | exact A.sim.refl _ | exact rfl | exact Nat.le_refl _ | omega | exact fun i _ => shift_sim _ _ i | exact fun _ _ => trivial | exact fun _ h => absurd h (Nat.not_lt_zero _) | exact ⟨rfl, rfl⟩ | exact sim3 (A.sim.of (sync_bytes _)) (A.sim.of rfl) (A.sim.of rfl) | exact sim3 (A.sim.of (rfl)) (A.sim.of rfl) (A.sim.of rfl))); (conv => whnf))
            | (refine W.callA (read_does (DK.set x.2 0 (DK.syncF (DK.get x.2 0))) 2 hok2) rfl rfl rfl rfl hΓ rfl ?_; (conv => whnf); refine ⟨rfl, rfl, ?_, ?_, ?_, ?_⟩; iterate 3 (focus ((repeat' apply And.intro) <;> first | exact trivial | (intro i _; rw [Nat.zero_add]; exact A.sim.refl _) | with_reducible exact rfl | exact fun _ _ => A.sim.refl _ | exact A.sim.refl _ | exact rfl | exact Nat.le_refl _ | omega | exact fun i _ => shift_sim _ _ i | exact fun _ _ => trivial | exact fun _ h => absurd h (Nat.not_lt_zero _) | exact ⟨rfl, rfl⟩ | exact sim3 (A.sim.of (sync_bytes _)) (A.sim.of rfl) (A.sim.of rfl) | exact sim3 (A.sim.of (rfl)) (A.sim.of rfl) (A.sim.of rfl))); (conv => whnf))
            | (refine D.callAR (sure_does (DK.set x.2 0 (DK.syncF (DK.get x.2 0))) 0) rfl rfl rfl rfl hΓ rfl ?_; (conv => whnf); refine ⟨rfl, rfl, rfl, rfl, ?_, ?_, ?_, ?_, ?_⟩; iterate 4 (focus ((repeat' apply And.intro) <;> first | exact trivial | (intro i _; rw [Nat.zero_add]; exact A.sim.refl _) | with_reducible exact rfl | exact fun _ _ => A.sim.refl _ | exact A.sim.refl _ | exact rfl | exact Nat.le_refl _ | omega | exact fun i _ => shift_sim _ _ i | exact fun _ _ => trivial | exact fun _ h => absurd h (Nat.not_lt_zero _) | exact ⟨rfl, rfl⟩ | exact sim3 (A.sim.of (sync_bytes _)) (A.sim.of rfl) (A.sim.of rfl) | exact sim3 (A.sim.of (rfl)) (A.sim.of rfl) (A.sim.of rfl))); (conv => whnf))
            | (refine W.callA (sure_does (DK.set x.2 0 (DK.syncF (DK.get x.2 0))) 0) rfl rfl rfl rfl hΓ rfl ?_; (conv => whnf); refine ⟨rfl, rfl, ?_, ?_, ?_, ?_⟩; iterate 3 (focus ((repeat' apply And.intro) <;> first | exact trivial | (intro i _; rw [Nat.zero_add]; exact A.sim.refl _) | with_reducible exact rfl | exact fun _ _ => A.sim.refl _ | exact A.sim.refl _ | exact rfl | exact Nat.le_refl _ | omega | exact fun i _ => shift_sim _ _ i | exact fun _ _ => trivial | exact fun _ h => absurd h (Nat.not_lt_zero _) | exact ⟨rfl, rfl⟩ | exact sim3 (A.sim.of (sync_bytes _)) (A.sim.of rfl) (A.sim.of rfl) | exact sim3 (A.sim.of (rfl)) (A.sim.of rfl) (A.sim.of rfl))); (conv => whnf))
            | (refine D.callAR (sure_does (DK.set x.2 0 (DK.syncF (DK.get x.2 0))) 1) rfl rfl rfl rfl hΓ rfl ?_; (conv => whnf); refine ⟨rfl, rfl, rfl, rfl, ?_, ?_, ?_, ?_, ?_⟩; iterate 4 (focus ((repeat' apply And.intro) <;> first | exact trivial | (intro i _; rw [Nat.zero_add]; exact A.sim.refl _) | with_reducible exact rfl | exact fun _ _ => A.sim.refl _ | exact A.sim.refl _ | exact rfl | exact Nat.le_refl _ | omega | exact fun i _ => shift_sim _ _ i | exact fun _ _ => trivial | exact fun _ h => absurd h (Nat.not_lt_zero _) | exact ⟨rfl, rfl⟩ | exact sim3 (A.sim.of (sync_bytes _)) (A.sim.of rfl) (A.sim.of rfl) | exact sim3 (A.sim.of (rfl)) (A.sim.of rfl) (A.sim.of rfl))); (conv => whnf))
            | (refine W.callA (sure_does (DK.set x.2 0 (DK.syncF (DK.get x.2 0))) 1) rfl rfl rfl rfl hΓ rfl ?_; (conv => whnf); refine ⟨rfl, rfl, ?_, ?_, ?_, ?_⟩; iterate 3 (focus ((repeat' apply And.intro) <;> first | exact trivial | (intro i _; rw [Nat.zero_add]; exact A.sim.refl _) | with_reducible exact rfl | exact fun _ _ => A.sim.refl _ | exact A.sim.refl _ | exact rfl | exact Nat.le_refl _ | omega | exact fun i _ => shift_sim _ _ i | exact fun _ _ => trivial | exact fun _ h => absurd h (Nat.not_lt_zero _) | exact ⟨rfl, rfl⟩ | exact sim3 (A.sim.of (sync_bytes _)) (A.sim.of rfl) (A.sim.of rfl) | exact sim3 (A.sim.of (rfl)) (A.sim.of rfl) (A.sim.of rfl))); (conv => whnf))
            | (refine D.callAR (sure_does (DK.set x.2 0 (DK.syncF (DK.get x.2 0))) 2) rfl rfl rfl rfl hΓ rfl ?_; (conv => whnf); refine ⟨rfl, rfl, rfl, rfl, ?_, ?_, ?_, ?_, ?_⟩; iterate 4 (focus ((repeat' apply And.intro) <;> first | exact trivial | (intro i _; rw [Nat.zero_add]; exact A.sim.refl _) | with_reducible exact rfl | exact fun _ _ => A.sim.refl _ | exact A.sim.refl _ | exact rfl | exact Nat.le_refl _ | omega | exact fun i _ => shift_sim _ _ i | exact fun _ _ => trivial | exact fun _ h => absurd h (Nat.not_lt_zero _) | exact ⟨rfl, rfl⟩ | exact sim3 (A.sim.of (sync_bytes _)) (A.sim.of rfl) (A.sim.of rfl) | exact sim3 (A.sim.of (rfl)) (A.sim.of rfl) (A.sim.of rfl))); (conv => whnf))
            | (refine W.callA (sure_does (DK.set x.2 0 (DK.syncF (DK.get x.2 0))) 2) rfl rfl rfl rfl hΓ rfl ?_; (conv => whnf); refine ⟨rfl, rfl, ?_, ?_, ?_, ?_⟩; iterate 3 (focus ((repeat' apply And.intro) <;> first | exact trivial | (intro i _; rw [Nat.zero_add]; exact A.sim.refl _) | with_reducible exact rfl | exact fun _ _ => A.sim.refl _ | exact A.sim.refl _ | exact rfl | exact Nat.le_refl _ | omega | exact fun i _ => shift_sim _ _ i | exact fun _ _ => trivial | exact fun _ h => absurd h (Nat.not_lt_zero _) | exact ⟨rfl, rfl⟩ | exact sim3 (A.sim.of (sync_bytes _)) (A.sim.of rfl) (A.sim.of rfl) | exact sim3 (A.sim.of (rfl)) (A.sim.of rfl) (A.sim.of rfl))); (conv => whnf))
            | (refine W.go TfOK 118 hΓ 1000 rfl ?_; (conv => whnf); refine ⟨?_, ?_⟩)
            | (refine D.go TfOK 118 hΓ 1000 rfl ?_; (conv => whnf); refine ⟨?_, ?_⟩)
            | (refine W.drawn rfl rfl ?_; refine D.run TfOK 118 hΓ 1000 ?_; (conv => whnf); refine ⟨?_, ?_⟩)
          all_goals (repeat' apply And.intro)
          all_goals try (first
            | exact trivial
            | exact rfl
            | exact fun _ _ => A.sim.refl _
            | exact A.sim.refl _
            | exact Nat.le_refl _
            | omega
            | exact fun _ _ => trivial
            | exact fun i _ => shift_sim _ _ i
            | exact fun _ h => absurd h (Nat.not_lt_zero _)
            | exact fun i _ => isInt_byteAt _ i
            | (intro i _; exact isInt_byteAt _ _)
            | exact hst.2.2
            | (intro i _; exact isInt_cat _ _ _ _)
            | (simp only [allP, List.nil_append, List.append_nil, List.cons_append, List.append_eq, and_true, true_and, inr_i64, inr_u8, inr_u64, min_i64, max_i64, min_u64, max_u64, min_u8, max_u8, A.purePL, A.pureP, A.sureP, A.surePL, Int.toNat_natCast, Int.reduceToNat, addI, cHi, cLo, hiN, loN, subO, addO, hasIdx, cond_true, cond_false]; first | done | omega | ((repeat' apply And.intro) <;> first | exact trivial | rfl | omega | decide))
            | (show (x.2.f0.b.length + (l.getD x.1 []).length) * 1 ≤ 17592186044416; omega)
            | (show x.2.f0.b.length * 1 ≤ 17592186044416; omega)
            )
        · have hst := hJ.app hl20 hil 0 (by decide) (l.getD x.1 []) hx
          have hok2 := hst.2.2.ok hl20
          have ca := append_does x.2 ((0 : Nat) : Int) (l.getD x.1 []) hok (by omega)
          rw [hst.1, hst.2.1] at ca
          repeat' first
            | assumption
            | exact Bool.noConfusion hb
            | exact absurd hb (by decide)
            | (refine W.toA (ih (x.1 + 1, (DK.set x.2 0 (DK.appF (DK.get x.2 0) (l.getD x.1 [])))) ?_ ?_) ?_; rotate_left 2; (conv => whnf); refine ⟨rfl, rfl, rfl, rfl, rfl, rfl, ?_, ?_⟩; iterate 2 (focus ((repeat' apply And.intro) <;> first | exact trivial | (intro i _; rw [Nat.zero_add]; exact A.sim.refl _) | with_reducible exact rfl | exact fun _ _ => A.sim.refl _ | exact A.sim.refl _ | exact rfl | exact Nat.le_refl _ | omega | exact fun i _ => shift_sim _ _ i | exact fun _ _ => trivial | exact fun _ h => absurd h (Nat.not_lt_zero _) | exact ⟨rfl, rfl⟩ | exact sim3 (A.sim.of (apart_app _ _)) (A.sim.of rfl) (A.sim.of rfl) | exact sim3 (A.sim.of (rfl)) (A.sim.of rfl) (A.sim.of rfl))))
            | (exfalso; omega)
            | (refine W.enter ?_)
            | (refine W.again ?_)
            | (exfalso; simp at hb; done)
            | (exfalso; have hb2 : (200 : Int) ≤ ((fs.getD x.1 0).toNat : Int) := hb; omega)
            | (exfalso; have hb2 : ((fs.getD x.1 0).toNat : Int) < 200 := hb; omega)
            | exact absurd rfl hb
            | exact absurd (apart_str _ _) hb
            | (refine W.retY TfOK rfl rfl ⟨?_, ?_⟩)
            | (refine W.branch rfl (fun hb => ?_) (fun hb => ?_) <;> ((try simp only [decide_eq_true_eq, decide_eq_false_iff_not, Bool.not_eq_true', Bool.not_eq_false', Int.not_lt, Int.not_le, cond_true, cond_false, reduceCtorEq, Int.toNat_natCast, Int.reduceToNat, addI] at hb); (try replace hb := of_decide_eq_true hb); (try replace hb := of_decide_eq_false hb)))
            | (refine D.branch rfl (fun hb => ?_) (fun hb => ?_) <;> ((try simp only [decide_eq_true_eq, decide_eq_false_iff_not, Bool.not_eq_true', Bool.not_eq_false', Int.not_lt, Int.not_le, cond_true, cond_false, reduceCtorEq, Int.toNat_natCast, Int.reduceToNat, addI] at hb); (try replace hb := of_decide_eq_true hb); (try replace hb := of_decide_eq_false hb)))
            | ((first | (refine D.callA (ca) rfl rfl rfl rfl hΓ rfl ?_; (conv => whnf); refine ⟨rfl, rfl, rfl, ?_, ?_, ?_, ?_⟩) | (refine W.callA (ca) rfl rfl rfl rfl hΓ rfl ?_; (conv => whnf); refine ⟨rfl, rfl, ?_, ?_, ?_, ?_⟩)); iterate 3 (focus ((repeat' apply And.intro) <;> first | exact trivial | (intro i _; rw [Nat.zero_add]; exact A.sim.refl _) | with_reducible exact rfl | exact fun _ _ => A.sim.refl _ | exact A.sim.refl _ | exact rfl | exact Nat.le_refl _ | omega | exact fun i _ => shift_sim _ _ i | exact fun _ _ => trivial | exact fun _ h => absurd h (Nat.not_lt_zero _) | exact ⟨rfl, rfl⟩ | exact sim3 (A.sim.of (apart_app _ _)) (A.sim.of rfl) (A.sim.of rfl) | exact sim3 (A.sim.of (rfl)) (A.sim.of rfl) (A.sim.of rfl))); (conv => whnf))
            | (refine D.callAR (read_does (DK.set x.2 0 (DK.appF (DK.get x.2 0) (l.getD x.1 []))) 0 hok2) rfl rfl rfl rfl hΓ rfl ?_; (conv => whnf); refine ⟨rfl, rfl, rfl, rfl, ?_, ?_, ?_, ?_, ?_⟩; iterate 4 (focus ((repeat' apply And.intro) <;> first | exact trivial | (intro i _; rw [Nat.zero_add]; exact A.sim.refl _) | with_reducible exact rfl | exact fun _ _ => A.sim.refl _ | exact A.sim.refl _ | exact rfl | exact Nat.le_refl _ | omega | exact fun i _ => shift_sim _ _ i | exact fun _ _ => trivial | exact fun _ h => absurd h (Nat.not_lt_zero _) | exact ⟨rfl, rfl⟩ | exact sim3 (A.sim.of (apart_app _ _)) (A.sim.of rfl) (A.sim.of rfl) | exact sim3 (A.sim.of (rfl)) (A.sim.of rfl) (A.sim.of rfl))); (conv => whnf))
            | (refine W.callA (read_does (DK.set x.2 0 (DK.appF (DK.get x.2 0) (l.getD x.1 []))) 0 hok2) rfl rfl rfl rfl hΓ rfl ?_; (conv => whnf); refine ⟨rfl, rfl, ?_, ?_, ?_, ?_⟩; iterate 3 (focus ((repeat' apply And.intro) <;> first | exact trivial | (intro i _; rw [Nat.zero_add]; exact A.sim.refl _) | with_reducible exact rfl | exact fun _ _ => A.sim.refl _ | exact A.sim.refl _ | exact rfl | exact Nat.le_refl _ | omega | exact fun i _ => shift_sim _ _ i | exact fun _ _ => trivial | exact fun _ h => absurd h (Nat.not_lt_zero _) | exact ⟨rfl, rfl⟩ | exact sim3 (A.sim.of (apart_app _ _)) (A.sim.of rfl) (A.sim.of rfl) | exact sim3 (A.sim.of (rfl)) (A.sim.of rfl) (A.sim.of rfl))); (conv => whnf))
            | (refine D.callAR (read_does (DK.set x.2 0 (DK.appF (DK.get x.2 0) (l.getD x.1 []))) 1 hok2) rfl rfl rfl rfl hΓ rfl ?_; (conv => whnf); refine ⟨rfl, rfl, rfl, rfl, ?_, ?_, ?_, ?_, ?_⟩; iterate 4 (focus ((repeat' apply And.intro) <;> first | exact trivial | (intro i _; rw [Nat.zero_add]; exact A.sim.refl _) | with_reducible exact rfl | exact fun _ _ => A.sim.refl _ | exact A.sim.refl _ | exact rfl | exact Nat.le_refl _ | omega | exact fun i _ => shift_sim _ _ i | exact fun _ _ => trivial | exact fun _ h => absurd h (Nat.not_lt_zero _) | exact ⟨rfl, rfl⟩ | exact sim3 (A.sim.of (apart_app _ _)) (A.sim.of rfl) (A.sim.of rfl) | exact sim3 (A.sim.of (rfl)) (A.sim.of rfl) (A.sim.of rfl))); (conv => whnf))
            | (refine W.callA (read_does (DK.set x.2 0 (DK.appF (DK.get x.2 0) (l.getD x.1 []))) 1 hok2) rfl rfl rfl rfl hΓ rfl ?_; (conv => whnf); refine ⟨rfl, rfl, ?_, ?_, ?_, ?_⟩; iterate 3 (focus ((repeat' apply And.intro) <;> first | exact trivial | (intro i _; rw [Nat.zero_add]; exact A.sim.refl _) | with_reducible exact rfl | exact fun _ _ => A.sim.refl _ | exact A.sim.refl _ | exact rfl | exact Nat.le_refl _ | omega | exact fun i _ => shift_sim _ _ i | exact fun _ _ => trivial | exact fun _ h => absurd h (Nat.not_lt_zero _) | exact ⟨rfl, rfl⟩ | exact sim3 (A.sim.of (apart_app _ _)) (A.sim.of rfl) (A.sim.of rfl) | exact sim3 (A.sim.of (rfl)) (A.sim.of rfl) (A.sim.of rfl))); (conv => whnf))
            | (refine D.callAR (read_does (DK.set x.2 0 (DK.appF (DK.get x.2 0) (l.getD x.1 []))) 2 hok2) rfl rfl rfl rfl hΓ rfl ?_; (conv => whnf); refine ⟨rfl, rfl, rfl, rfl, ?_, ?_, ?_, ?_, ?_⟩; iterate 4 (focus ((repeat' apply And.intro) <;> first | exact trivial | (intro i _; rw [Nat.zero_add]; exact A.sim.refl _) | with_reducible exact rfl | exact fun _ _ => A.sim.refl _ | exact A.sim.refl _ | exact rfl | exact Nat.le_refl _ | omega | exact fun i _ => shift_sim _ _ i | exact fun _ _ => trivial | exact fun _ h => absurd h (Nat.not_lt_zero _) | exact ⟨rfl, rfl⟩ | exact sim3 (A.sim.of (apart_app _ _)) (A.sim.of rfl) (A.sim.of rfl) | exact sim3 (A.sim.of (rfl)) (A.sim.of rfl) (A.sim.of rfl))); (conv => whnf))
            | (refine W.callA (read_does (DK.set x.2 0 (DK.appF (DK.get x.2 0) (l.getD x.1 []))) 2 hok2) rfl rfl rfl rfl hΓ rfl ?_; (conv => whnf); refine ⟨rfl, rfl, ?_, ?_, ?_, ?_⟩; iterate 3 (focus ((repeat' apply And.intro) <;> first | exact trivial | (intro i _; rw [Nat.zero_add]; exact A.sim.refl _) | with_reducible exact rfl | exact fun _ _ => A.sim.refl _ | exact A.sim.refl _ | exact rfl | exact Nat.le_refl _ | omega | exact fun i _ => shift_sim _ _ i | exact fun _ _ => trivial | exact fun _ h => absurd h (Nat.not_lt_zero _) | exact ⟨rfl, rfl⟩ | exact sim3 (A.sim.of (apart_app _ _)) (A.sim.of rfl) (A.sim.of rfl) | exact sim3 (A.sim.of (rfl)) (A.sim.of rfl) (A.sim.of rfl))); (conv => whnf))
            | (refine D.callAR (sure_does (DK.set x.2 0 (DK.appF (DK.get x.2 0) (l.getD x.1 []))) 0) rfl rfl rfl rfl hΓ rfl ?_; (conv => whnf); refine ⟨rfl, rfl, rfl, rfl, ?_, ?_, ?_, ?_, ?_⟩; iterate 4 (focus ((repeat' apply And.intro) <;> first | exact trivial | (intro i _; rw [Nat.zero_add]; exact A.sim.refl _) | with_reducible exact rfl | exact fun _ _ => A.sim.refl _ | exact A.sim.refl _ | exact rfl | exact Nat.le_refl _ | omega | exact fun i _ => shift_sim _ _ i | exact fun _ _ => trivial | exact fun _ h => absurd h (Nat.not_lt_zero _) | exact ⟨rfl, rfl⟩ | exact sim3 (A.sim.of (apart_app _ _)) (A.sim.of rfl) (A.sim.of rfl) | exact sim3 (A.sim.of (rfl)) (A.sim.of rfl) (A.sim.of rfl))); (conv => whnf))
            | (refine W.callA (sure_does (DK.set x.2 0 (DK.appF (DK.get x.2 0) (l.getD x.1 []))) 0) rfl rfl rfl rfl hΓ rfl ?_; (conv => whnf); refine ⟨rfl, rfl, ?_, ?_, ?_, ?_⟩; iterate 3 (focus ((repeat' apply And.intro) <;> first | exact trivial | (intro i _; rw [Nat.zero_add]; exact A.sim.refl _) | with_reducible exact rfl | exact fun _ _ => A.sim.refl _ | exact A.sim.refl _ | exact rfl | exact Nat.le_refl _ | omega | exact fun i _ => shift_sim _ _ i | exact fun _ _ => trivial | exact fun _ h => absurd h (Nat.not_lt_zero _) | exact ⟨rfl, rfl⟩ | exact sim3 (A.sim.of (apart_app _ _)) (A.sim.of rfl) (A.sim.of rfl) | exact sim3 (A.sim.of (rfl)) (A.sim.of rfl) (A.sim.of rfl))); (conv => whnf))
            | (refine D.callAR (sure_does (DK.set x.2 0 (DK.appF (DK.get x.2 0) (l.getD x.1 []))) 1) rfl rfl rfl rfl hΓ rfl ?_; (conv => whnf); refine ⟨rfl, rfl, rfl, rfl, ?_, ?_, ?_, ?_, ?_⟩; iterate 4 (focus ((repeat' apply And.intro) <;> first | exact trivial | (intro i _; rw [Nat.zero_add]; exact A.sim.refl _) | with_reducible exact rfl | exact fun _ _ => A.sim.refl _ | exact A.sim.refl _ | exact rfl | exact Nat.le_refl _ | omega | exact fun i _ => shift_sim _ _ i | exact fun _ _ => trivial | exact fun _ h => absurd h (Nat.not_lt_zero _) | exact ⟨rfl, rfl⟩ | exact sim3 (A.sim.of (apart_app _ _)) (A.sim.of rfl) (A.sim.of rfl) | exact sim3 (A.sim.of (rfl)) (A.sim.of rfl) (A.sim.of rfl))); (conv => whnf))
            | (refine W.callA (sure_does (DK.set x.2 0 (DK.appF (DK.get x.2 0) (l.getD x.1 []))) 1) rfl rfl rfl rfl hΓ rfl ?_; (conv => whnf); refine ⟨rfl, rfl, ?_, ?_, ?_, ?_⟩; iterate 3 (focus ((repeat' apply And.intro) <;> first | exact trivial | (intro i _; rw [Nat.zero_add]; exact A.sim.refl _) | with_reducible exact rfl | exact fun _ _ => A.sim.refl _ | exact A.sim.refl _ | exact rfl | exact Nat.le_refl _ | omega | exact fun i _ => shift_sim _ _ i | exact fun _ _ => trivial | exact fun _ h => absurd h (Nat.not_lt_zero _) | exact ⟨rfl, rfl⟩ | exact sim3 (A.sim.of (apart_app _ _)) (A.sim.of rfl) (A.sim.of rfl) | exact sim3 (A.sim.of (rfl)) (A.sim.of rfl) (A.sim.of rfl))); (conv => whnf))
            | (refine D.callAR (sure_does (DK.set x.2 0 (DK.appF (DK.get x.2 0) (l.getD x.1 []))) 2) rfl rfl rfl rfl hΓ rfl ?_; (conv => whnf); refine ⟨rfl, rfl, rfl, rfl, ?_, ?_, ?_, ?_, ?_⟩; iterate 4 (focus ((repeat' apply And.intro) <;> first | exact trivial | (intro i _; rw [Nat.zero_add]; exact A.sim.refl _) | with_reducible exact rfl | exact fun _ _ => A.sim.refl _ | exact A.sim.refl _ | exact rfl | exact Nat.le_refl _ | omega | exact fun i _ => shift_sim _ _ i | exact fun _ _ => trivial | exact fun _ h => absurd h (Nat.not_lt_zero _) | exact ⟨rfl, rfl⟩ | exact sim3 (A.sim.of (apart_app _ _)) (A.sim.of rfl) (A.sim.of rfl) | exact sim3 (A.sim.of (rfl)) (A.sim.of rfl) (A.sim.of rfl))); (conv => whnf))
            | (refine W.callA (sure_does (DK.set x.2 0 (DK.appF (DK.get x.2 0) (l.getD x.1 []))) 2) rfl rfl rfl rfl hΓ rfl ?_; (conv => whnf); refine ⟨rfl, rfl, ?_, ?_, ?_, ?_⟩; iterate 3 (focus ((repeat' apply And.intro) <;> first | exact trivial | (intro i _; rw [Nat.zero_add]; exact A.sim.refl _) | with_reducible exact rfl | exact fun _ _ => A.sim.refl _ | exact A.sim.refl _ | exact rfl | exact Nat.le_refl _ | omega | exact fun i _ => shift_sim _ _ i | exact fun _ _ => trivial | exact fun _ h => absurd h (Nat.not_lt_zero _) | exact ⟨rfl, rfl⟩ | exact sim3 (A.sim.of (apart_app _ _)) (A.sim.of rfl) (A.sim.of rfl) | exact sim3 (A.sim.of (rfl)) (A.sim.of rfl) (A.sim.of rfl))); (conv => whnf))
            | (refine W.go TfOK 118 hΓ 1000 rfl ?_; (conv => whnf); refine ⟨?_, ?_⟩)
            | (refine D.go TfOK 118 hΓ 1000 rfl ?_; (conv => whnf); refine ⟨?_, ?_⟩)
            | (refine W.drawn rfl rfl ?_; refine D.run TfOK 118 hΓ 1000 ?_; (conv => whnf); refine ⟨?_, ?_⟩)
          all_goals (repeat' apply And.intro)
          all_goals try (first
            | exact trivial
            | exact rfl
            | exact fun _ _ => A.sim.refl _
            | exact A.sim.refl _
            | exact Nat.le_refl _
            | omega
            | exact fun _ _ => trivial
            | exact fun i _ => shift_sim _ _ i
            | exact fun _ h => absurd h (Nat.not_lt_zero _)
            | exact fun i _ => isInt_byteAt _ i
            | (intro i _; exact isInt_byteAt _ _)
            | exact hst.2.2
            | (intro i _; exact isInt_cat _ _ _ _)
            | (simp only [allP, List.nil_append, List.append_nil, List.cons_append, List.append_eq, and_true, true_and, inr_i64, inr_u8, inr_u64, min_i64, max_i64, min_u64, max_u64, min_u8, max_u8, A.purePL, A.pureP, A.sureP, A.surePL, Int.toNat_natCast, Int.reduceToNat, addI, cHi, cLo, hiN, loN, subO, addO, hasIdx, cond_true, cond_false]; first | done | omega | ((repeat' apply And.intro) <;> first | exact trivial | rfl | omega | decide))
            | (show (x.2.f0.b.length + (l.getD x.1 []).length) * 1 ≤ 17592186044416; omega)
            | (show x.2.f0.b.length * 1 ≤ 17592186044416; omega)
            )
      · have hfv : IntKind.i64.wrap (((fs.getD x.1 0).toNat : Int) % 3) = 1 := by rw [wrap_i64_in (by omega) (by omega)]; omega
        refine W.seeA ([(9, .int .i64 1)]) ([]) [] ?_
        (conv => whnf); refine ⟨?_, ?_⟩; focus ((conv => whnf); refine ⟨rfl, rfl, rfl, rfl, rfl, rfl, ?_, ?_⟩; iterate 2 (focus ((repeat' apply And.intro) <;> first | exact trivial | (intro i _; rw [Nat.zero_add]; exact A.sim.refl _) | with_reducible exact rfl | exact fun _ _ => A.sim.refl _ | exact A.sim.refl _ | exact rfl | exact Nat.le_refl _ | omega | exact fun i _ => shift_sim _ _ i | exact fun _ _ => trivial | exact fun _ h => absurd h (Nat.not_lt_zero _) | exact hfv)))
        by_cases h200 : 200 ≤ (fs.getD x.1 0).toNat
        · have hst := hJ.sync hil 1 (by decide)
          have hok2 := hst.2.2.ok hl20
          have ca := sync_does x.2 ((1 : Nat) : Int) hok
          rw [hst.1, hst.2.1] at ca
          repeat' first
            | assumption
            | exact Bool.noConfusion hb
            | exact absurd hb (by decide)
            | (refine W.toA (ih (x.1 + 1, (DK.set x.2 1 (DK.syncF (DK.get x.2 1)))) ?_ ?_) ?_; rotate_left 2; (conv => whnf); refine ⟨rfl, rfl, rfl, rfl, rfl, rfl, ?_, ?_⟩; iterate 2 (focus ((repeat' apply And.intro) <;> first | exact trivial | (intro i _; rw [Nat.zero_add]; exact A.sim.refl _) | with_reducible exact rfl | exact fun _ _ => A.sim.refl _ | exact A.sim.refl _ | exact rfl | exact Nat.le_refl _ | omega | exact fun i _ => shift_sim _ _ i | exact fun _ _ => trivial | exact fun _ h => absurd h (Nat.not_lt_zero _) | exact ⟨rfl, rfl⟩ | exact sim3 (A.sim.of rfl) (A.sim.of (sync_bytes _)) (A.sim.of rfl) | exact sim3 (A.sim.of rfl) (A.sim.of (rfl)) (A.sim.of rfl))))
            | (exfalso; omega)
            | (refine W.enter ?_)
            | (refine W.again ?_)
            | (exfalso; simp at hb; done)
            | (exfalso; have hb2 : (200 : Int) ≤ ((fs.getD x.1 0).toNat : Int) := hb; omega)
            | (exfalso; have hb2 : ((fs.getD x.1 0).toNat : Int) < 200 := hb; omega)
            | exact absurd rfl hb
            | exact absurd (sync_str _) hb
            | (refine W.retY TfOK rfl rfl ⟨?_, ?_⟩)
            | (refine W.branch rfl (fun hb => ?_) (fun hb => ?_) <;> ((try simp only [decide_eq_true_eq, decide_eq_false_iff_not, Bool.not_eq_true', Bool.not_eq_false', Int.not_lt, Int.not_le, cond_true, cond_false, reduceCtorEq, Int.toNat_natCast, Int.reduceToNat, addI] at hb); (try replace hb := of_decide_eq_true hb); (try replace hb := of_decide_eq_false hb)))
            | (refine D.branch rfl (fun hb => ?_) (fun hb => ?_) <;> ((try simp only [decide_eq_true_eq, decide_eq_false_iff_not, Bool.not_eq_true', Bool.not_eq_false', Int.not_lt, Int.not_le, cond_true, cond_false, reduceCtorEq, Int.toNat_natCast, Int.reduceToNat, addI] at hb); (try replace hb := of_decide_eq_true hb); (try replace hb := of_decide_eq_false hb)))
            | ((first | (refine D.callA (ca) rfl rfl rfl rfl hΓ rfl ?_; (conv => whnf); refine ⟨rfl, rfl, rfl, ?_, ?_, ?_, ?_⟩) | (refine W.callA (ca) rfl rfl rfl rfl hΓ rfl ?_; (conv => whnf); refine ⟨rfl, rfl, ?_, ?_, ?_, ?_⟩)); iterate 3 (focus ((repeat' apply And.intro) <;> first | exact trivial | (intro i _; rw [Nat.zero_add]; exact A.sim.refl _) | with_reducible exact rfl | exact fun _ _ => A.sim.refl _ | exact A.sim.refl _ | exact rfl | exact Nat.le_refl _ | omega | exact fun i _ => shift_sim _ _ i | exact fun _ _ => trivial | exact fun _ h => absurd h (Nat.not_lt_zero _) | exact ⟨rfl, rfl⟩ | exact sim3 (A.sim.of rfl) (A.sim.of (sync_bytes _)) (A.sim.of rfl) | exact sim3 (A.sim.of rfl) (A.sim.of (rfl)) (A.sim.of rfl))); (conv => whnf))
            | (refine D.callAR (read_does (DK.set x.2 1 (DK.syncF (DK.get x.2 1))) 0 hok2) rfl rfl rfl rfl hΓ rfl ?_; (conv => whnf); refine ⟨rfl, rfl, rfl, rfl, ?_, ?_, ?_, ?_, ?_⟩; iterate 4 (focus ((repeat' apply And.intro) <;> first | exact trivial | (intro i _; rw [Nat.zero_add]; exact A.sim.refl _) | with_reducible exact rfl | exact fun _ _ => A.sim.refl _ | exact A.sim.refl _ | exact rfl | exact Nat.le_refl _ | omega | exact fun i _ => shift_sim _ _ i | exact fun _ _ => trivial | exact fun _ h => absurd h (Nat.not_lt_zero _) | exact ⟨rfl, rfl⟩ | exact sim3 (A.sim.of rfl) (A.sim.of (sync_bytes _)) (A.sim.of rfl) | exact sim3 (A.sim.of rfl) (A.sim.of (rfl)) (A.sim.of rfl))); (conv => whnf))
            | (refine W.callA (read_does (DK.set x.2 1 (DK.syncF (DK.get x.2 1))) 0 hok2) rfl rfl rfl rfl hΓ rfl ?_; (conv => whnf); refine ⟨rfl, rfl, ?_, ?_, ?_, ?_⟩; iterate 3 (focus ((repeat' apply And.intro) <;> first | exact trivial | (intro i _; rw [Nat.zero_add]; exact A.sim.refl _) | with_reducible exact rfl | exact fun _ _ => A.sim.refl _ | exact A.sim.refl _ | exact rfl | exact Nat.le_refl _ | omega | exact fun i _ => shift_sim _ _ i | exact fun _ _ => trivial | exact fun _ h => absurd h (Nat.not_lt_zero _) | exact ⟨rfl, rfl⟩ | exact sim3 (A.sim.of rfl) (A.sim.of (sync_bytes _)) (A.sim.of rfl) | exact sim3 (A.sim.of rfl) (A.sim.of (rfl)) (A.sim.of rfl))); (conv => whnf))
            | (refine D.callAR (read_does (DK.set x.2 1 (DK.syncF (DK.get x.2 1))) 1 hok2) rfl rfl rfl rfl hΓ rfl ?_; (conv => whnf); refine ⟨rfl, rfl, rfl, rfl, ?_, ?_, ?_, ?_, ?_⟩; iterate 4 (focus ((repeat' apply And.intro) <;> first | exact trivial | (intro i _; rw [Nat.zero_add]; exact A.sim.refl _) | with_reducible exact rfl | exact fun _ _ => A.sim.refl _ | exact A.sim.refl _ | exact rfl | exact Nat.le_refl _ | omega | exact fun i _ => shift_sim _ _ i | exact fun _ _ => trivial | exact fun _ h => absurd h (Nat.not_lt_zero _) | exact ⟨rfl, rfl⟩ | exact sim3 (A.sim.of rfl) (A.sim.of (sync_bytes _)) (A.sim.of rfl) | exact sim3 (A.sim.of rfl) (A.sim.of (rfl)) (A.sim.of rfl))); (conv => whnf))
            | (refine W.callA (read_does (DK.set x.2 1 (DK.syncF (DK.get x.2 1))) 1 hok2) rfl rfl rfl rfl hΓ rfl ?_; (conv => whnf); refine ⟨rfl, rfl, ?_, ?_, ?_, ?_⟩; iterate 3 (focus ((repeat' apply And.intro) <;> first | exact trivial | (intro i _; rw [Nat.zero_add]; exact A.sim.refl _) | with_reducible exact rfl | exact fun _ _ => A.sim.refl _ | exact A.sim.refl _ | exact rfl | exact Nat.le_refl _ | omega | exact fun i _ => shift_sim _ _ i | exact fun _ _ => trivial | exact fun _ h => absurd h (Nat.not_lt_zero _) | exact ⟨rfl, rfl⟩ | exact sim3 (A.sim.of rfl) (A.sim.of (sync_bytes _)) (A.sim.of rfl) | exact sim3 (A.sim.of rfl) (A.sim.of (rfl)) (A.sim.of rfl))); (conv => whnf))
            | (refine D.callAR (read_does (DK.set x.2 1 (DK.syncF (DK.get x.2 1))) 2 hok2) rfl rfl rfl rfl hΓ rfl ?_; (conv => whnf); refine ⟨rfl, rfl, rfl, rfl, ?_, ?_, ?_, ?_, ?_⟩; iterate 4 (focus ((repeat' apply And.intro) <;> first | exact trivial | (intro i _; rw [Nat.zero_add]; exact A.sim.refl _) | with_reducible exact rfl | exact fun _ _ => A.sim.refl _ | exact A.sim.refl _ | exact rfl | exact Nat.le_refl _ | omega | exact fun i _ => shift_sim _ _ i | exact fun _ _ => trivial | exact fun _ h => absurd h (Nat.not_lt_zero _) | exact ⟨rfl, rfl⟩ | exact sim3 (A.sim.of rfl) (A.sim.of (sync_bytes _)) (A.sim.of rfl) | exact sim3 (A.sim.of rfl) (A.sim.of (rfl)) (A.sim.of rfl))); (conv => whnf))
            | (refine W.callA (read_does (DK.set x.2 1 (DK.syncF (DK.get x.2 1))) 2 hok2) rfl rfl rfl rfl hΓ rfl ?_; (conv => whnf); refine ⟨rfl, rfl, ?_, ?_, ?_, ?_⟩; iterate 3 (focus ((repeat' apply And.intro) <;> first | exact trivial | (intro i _; rw [Nat.zero_add]; exact A.sim.refl _) | with_reducible exact rfl | exact fun _ _ => A.sim.refl _ | exact A.sim.refl _ | exact rfl | exact Nat.le_refl _ | omega | exact fun i _ => shift_sim _ _ i | exact fun _ _ => trivial | exact fun _ h => absurd h (Nat.not_lt_zero _) | exact ⟨rfl, rfl⟩ | exact sim3 (A.sim.of rfl) (A.sim.of (sync_bytes _)) (A.sim.of rfl) | exact sim3 (A.sim.of rfl) (A.sim.of (rfl)) (A.sim.of rfl))); (conv => whnf))
            | (refine D.callAR (sure_does (DK.set x.2 1 (DK.syncF (DK.get x.2 1))) 0) rfl rfl rfl rfl hΓ rfl ?_; (conv => whnf); refine ⟨rfl, rfl, rfl, rfl, ?_, ?_, ?_, ?_, ?_⟩; iterate 4 (focus ((repeat' apply And.intro) <;> first | exact trivial | (intro i _; rw [Nat.zero_add]; exact A.sim.refl _) | with_reducible exact rfl | exact fun _ _ => A.sim.refl _ | exact A.sim.refl _ | exact rfl | exact Nat.le_refl _ | omega | exact fun i _ => shift_sim _ _ i | exact fun _ _ => trivial | exact fun _ h => absurd h (Nat.not_lt_zero _) | exact ⟨rfl, rfl⟩ | exact sim3 (A.sim.of rfl) (A.sim.of (sync_bytes _)) (A.sim.of rfl) | exact sim3 (A.sim.of rfl) (A.sim.of (rfl)) (A.sim.of rfl))); (conv => whnf))
            | (refine W.callA (sure_does (DK.set x.2 1 (DK.syncF (DK.get x.2 1))) 0) rfl rfl rfl rfl hΓ rfl ?_; (conv => whnf); refine ⟨rfl, rfl, ?_, ?_, ?_, ?_⟩; iterate 3 (focus ((repeat' apply And.intro) <;> first | exact trivial | (intro i _; rw [Nat.zero_add]; exact A.sim.refl _) | with_reducible exact rfl | exact fun _ _ => A.sim.refl _ | exact A.sim.refl _ | exact rfl | exact Nat.le_refl _ | omega | exact fun i _ => shift_sim _ _ i | exact fun _ _ => trivial | exact fun _ h => absurd h (Nat.not_lt_zero _) | exact ⟨rfl, rfl⟩ | exact sim3 (A.sim.of rfl) (A.sim.of (sync_bytes _)) (A.sim.of rfl) | exact sim3 (A.sim.of rfl) (A.sim.of (rfl)) (A.sim.of rfl))); (conv => whnf))
            | (refine D.callAR (sure_does (DK.set x.2 1 (DK.syncF (DK.get x.2 1))) 1) rfl rfl rfl rfl hΓ rfl ?_; (conv => whnf); refine ⟨rfl, rfl, rfl, rfl, ?_, ?_, ?_, ?_, ?_⟩; iterate 4 (focus ((repeat' apply And.intro) <;> first | exact trivial | (intro i _; rw [Nat.zero_add]; exact A.sim.refl _) | with_reducible exact rfl | exact fun _ _ => A.sim.refl _ | exact A.sim.refl _ | exact rfl | exact Nat.le_refl _ | omega | exact fun i _ => shift_sim _ _ i | exact fun _ _ => trivial | exact fun _ h => absurd h (Nat.not_lt_zero _) | exact ⟨rfl, rfl⟩ | exact sim3 (A.sim.of rfl) (A.sim.of (sync_bytes _)) (A.sim.of rfl) | exact sim3 (A.sim.of rfl) (A.sim.of (rfl)) (A.sim.of rfl))); (conv => whnf))
            | (refine W.callA (sure_does (DK.set x.2 1 (DK.syncF (DK.get x.2 1))) 1) rfl rfl rfl rfl hΓ rfl ?_; (conv => whnf); refine ⟨rfl, rfl, ?_, ?_, ?_, ?_⟩; iterate 3 (focus ((repeat' apply And.intro) <;> first | exact trivial | (intro i _; rw [Nat.zero_add]; exact A.sim.refl _) | with_reducible exact rfl | exact fun _ _ => A.sim.refl _ | exact A.sim.refl _ | exact rfl | exact Nat.le_refl _ | omega | exact fun i _ => shift_sim _ _ i | exact fun _ _ => trivial | exact fun _ h => absurd h (Nat.not_lt_zero _) | exact ⟨rfl, rfl⟩ | exact sim3 (A.sim.of rfl) (A.sim.of (sync_bytes _)) (A.sim.of rfl) | exact sim3 (A.sim.of rfl) (A.sim.of (rfl)) (A.sim.of rfl))); (conv => whnf))
            | (refine D.callAR (sure_does (DK.set x.2 1 (DK.syncF (DK.get x.2 1))) 2) rfl rfl rfl rfl hΓ rfl ?_; (conv => whnf); refine ⟨rfl, rfl, rfl, rfl, ?_, ?_, ?_, ?_, ?_⟩; iterate 4 (focus ((repeat' apply And.intro) <;> first | exact trivial | (intro i _; rw [Nat.zero_add]; exact A.sim.refl _) | with_reducible exact rfl | exact fun _ _ => A.sim.refl _ | exact A.sim.refl _ | exact rfl | exact Nat.le_refl _ | omega | exact fun i _ => shift_sim _ _ i | exact fun _ _ => trivial | exact fun _ h => absurd h (Nat.not_lt_zero _) | exact ⟨rfl, rfl⟩ | exact sim3 (A.sim.of rfl) (A.sim.of (sync_bytes _)) (A.sim.of rfl) | exact sim3 (A.sim.of rfl) (A.sim.of (rfl)) (A.sim.of rfl))); (conv => whnf))
            | (refine W.callA (sure_does (DK.set x.2 1 (DK.syncF (DK.get x.2 1))) 2) rfl rfl rfl rfl hΓ rfl ?_; (conv => whnf); refine ⟨rfl, rfl, ?_, ?_, ?_, ?_⟩; iterate 3 (focus ((repeat' apply And.intro) <;> first | exact trivial | (intro i _; rw [Nat.zero_add]; exact A.sim.refl _) | with_reducible exact rfl | exact fun _ _ => A.sim.refl _ | exact A.sim.refl _ | exact rfl | exact Nat.le_refl _ | omega | exact fun i _ => shift_sim _ _ i | exact fun _ _ => trivial | exact fun _ h => absurd h (Nat.not_lt_zero _) | exact ⟨rfl, rfl⟩ | exact sim3 (A.sim.of rfl) (A.sim.of (sync_bytes _)) (A.sim.of rfl) | exact sim3 (A.sim.of rfl) (A.sim.of (rfl)) (A.sim.of rfl))); (conv => whnf))
            | (refine W.go TfOK 118 hΓ 1000 rfl ?_; (conv => whnf); refine ⟨?_, ?_⟩)
            | (refine D.go TfOK 118 hΓ 1000 rfl ?_; (conv => whnf); refine ⟨?_, ?_⟩)
            | (refine W.drawn rfl rfl ?_; refine D.run TfOK 118 hΓ 1000 ?_; (conv => whnf); refine ⟨?_, ?_⟩)
          all_goals (repeat' apply And.intro)
          all_goals try (first
            | exact trivial
            | exact rfl
            | exact fun _ _ => A.sim.refl _
            | exact A.sim.refl _
            | exact Nat.le_refl _
            | omega
            | exact fun _ _ => trivial
            | exact fun i _ => shift_sim _ _ i
            | exact fun _ h => absurd h (Nat.not_lt_zero _)
            | exact fun i _ => isInt_byteAt _ i
            | (intro i _; exact isInt_byteAt _ _)
            | exact hst.2.2
            | (intro i _; exact isInt_cat _ _ _ _)
            | (simp only [allP, List.nil_append, List.append_nil, List.cons_append, List.append_eq, and_true, true_and, inr_i64, inr_u8, inr_u64, min_i64, max_i64, min_u64, max_u64, min_u8, max_u8, A.purePL, A.pureP, A.sureP, A.surePL, Int.toNat_natCast, Int.reduceToNat, addI, cHi, cLo, hiN, loN, subO, addO, hasIdx, cond_true, cond_false]; first | done | omega | ((repeat' apply And.intro) <;> first | exact trivial | rfl | omega | decide))
            | (show (x.2.f1.b.length + (l.getD x.1 []).length) * 1 ≤ 17592186044416; omega)
            | (show x.2.f1.b.length * 1 ≤ 17592186044416; omega)
            )
        · have hst := hJ.app hl20 hil 1 (by decide) (l.getD x.1 []) hx
          have hok2 := hst.2.2.ok hl20
          have ca := append_does x.2 ((1 : Nat) : Int) (l.getD x.1 []) hok (by omega)
          rw [hst.1, hst.2.1] at ca
          repeat' first
            | assumption
            | exact Bool.noConfusion hb
            | exact absurd hb (by decide)
            | (refine W.toA (ih (x.1 + 1, (DK.set x.2 1 (DK.appF (DK.get x.2 1) (l.getD x.1 [])))) ?_ ?_) ?_; rotate_left 2; (conv => whnf); refine ⟨rfl, rfl, rfl, rfl, rfl, rfl, ?_, ?_⟩; iterate 2 (focus ((repeat' apply And.intro) <;> first | exact trivial | (intro i _; rw [Nat.zero_add]; exact A.sim.refl _) | with_reducible exact rfl | exact fun _ _ => A.sim.refl _ | exact A.sim.refl _ | exact rfl | exact Nat.le_refl _ | omega | exact fun i _ => shift_sim _ _ i | exact fun _ _ => trivial | exact fun _ h => absurd h (Nat.not_lt_zero _) | exact ⟨rfl, rfl⟩ | exact sim3 (A.sim.of rfl) (A.sim.of (apart_app _ _)) (A.sim.of rfl) | exact sim3 (A.sim.of rfl) (A.sim.of (rfl)) (A.sim.of rfl))))
            | (exfalso; omega)
            | (refine W.enter ?_)
            | (refine W.again ?_)
            | (exfalso; simp at hb; done)
            | (exfalso; have hb2 : (200 : Int) ≤ ((fs.getD x.1 0).toNat : Int) := hb; omega)
            | (exfalso; have hb2 : ((fs.getD x.1 0).toNat : Int) < 200 := hb; omega)
            | exact absurd rfl hb
            | exact absurd (apart_str _ _) hb
            | (refine W.retY TfOK rfl rfl ⟨?_, ?_⟩)
            | (refine W.branch rfl (fun hb => ?_) (fun hb => ?_) <;> ((try simp only [decide_eq_true_eq, decide_eq_false_iff_not, Bool.not_eq_true', Bool.not_eq_false', Int.not_lt, Int.not_le, cond_true, cond_false, reduceCtorEq, Int.toNat_natCast, Int.reduceToNat, addI] at hb); (try replace hb := of_decide_eq_true hb); (try replace hb := of_decide_eq_false hb)))
            | (refine D.branch rfl (fun hb => ?_) (fun hb => ?_) <;> ((try simp only [decide_eq_true_eq, decide_eq_false_iff_not, Bool.not_eq_true', Bool.not_eq_false', Int.not_lt, Int.not_le, cond_true, cond_false, reduceCtorEq, Int.toNat_natCast, Int.reduceToNat, addI] at hb); (try replace hb := of_decide_eq_true hb); (try replace hb := of_decide_eq_false hb)))
            | ((first | (refine D.callA (ca) rfl rfl rfl rfl hΓ rfl ?_; (conv => whnf); refine ⟨rfl, rfl, rfl, ?_, ?_, ?_, ?_⟩) | (refine W.callA (ca) rfl rfl rfl rfl hΓ rfl ?_; (conv => whnf); refine ⟨rfl, rfl, ?_, ?_, ?_, ?_⟩)); iterate 3 (focus ((repeat' apply And.intro) <;> first | exact trivial | (intro i _; rw [Nat.zero_add]; exact A.sim.refl _) | with_reducible exact rfl | exact fun _ _ => A.sim.refl _ | exact A.sim.refl _ | exact rfl | exact Nat.le_refl _ | omega | exact fun i _ => shift_sim _ _ i | exact fun _ _ => trivial | exact fun _ h => absurd h (Nat.not_lt_zero _) | exact ⟨rfl, rfl⟩ | exact sim3 (A.sim.of rfl) (A.sim.of (apart_app _ _)) (A.sim.of rfl) | exact sim3 (A.sim.of rfl) (A.sim.of (rfl)) (A.sim.of rfl))); (conv => whnf))
            | (refine D.callAR (read_does (DK.set x.2 1 (DK.appF (DK.get x.2 1) (l.getD x.1 []))) 0 hok2) rfl rfl rfl rfl hΓ rfl ?_; (conv => whnf); refine ⟨rfl, rfl, rfl, rfl, ?_, ?_, ?_, ?_, ?_⟩; iterate 4 (focus ((repeat' apply And.intro) <;> first | exact trivial | (intro i _; rw [Nat.zero_add]; exact A.sim.refl _) | with_reducible exact rfl | exact fun _ _ => A.sim.refl _ | exact A.sim.refl _ | exact rfl | exact Nat.le_refl _ | omega | exact fun i _ => shift_sim _ _ i | exact fun _ _ => trivial | exact fun _ h => absurd h (Nat.not_lt_zero _) | exact ⟨rfl, rfl⟩ | exact sim3 (A.sim.of rfl) (A.sim.of (apart_app _ _)) (A.sim.of rfl) | exact sim3 (A.sim.of rfl) (A.sim.of (rfl)) (A.sim.of rfl))); (conv => whnf))
            | (refine W.callA (read_does (DK.set x.2 1 (DK.appF (DK.get x.2 1) (l.getD x.1 []))) 0 hok2) rfl rfl rfl rfl hΓ rfl ?_; (conv => whnf); refine ⟨rfl, rfl, ?_, ?_, ?_, ?_⟩; iterate 3 (focus ((repeat' apply And.intro) <;> first | exact trivial | (intro i _; rw [Nat.zero_add]; exact A.sim.refl _) | with_reducible exact rfl | exact fun _ _ => A.sim.refl _ | exact A.sim.refl _ | exact rfl | exact Nat.le_refl _ | omega | exact fun i _ => shift_sim _ _ i | exact fun _ _ => trivial | exact fun _ h => absurd h (Nat.not_lt_zero _) | exact ⟨rfl, rfl⟩ | exact sim3 (A.sim.of rfl) (A.sim.of (apart_app _ _)) (A.sim.of rfl) | exact sim3 (A.sim.of rfl) (A.sim.of (rfl)) (A.sim.of rfl))); (conv => whnf))
            | (refine D.callAR (read_does (DK.set x.2 1 (DK.appF (DK.get x.2 1) (l.getD x.1 []))) 1 hok2) rfl rfl rfl rfl hΓ rfl ?_; (conv => whnf); refine ⟨rfl, rfl, rfl, rfl, ?_, ?_, ?_, ?_, ?_⟩; iterate 4 (focus ((repeat' apply And.intro) <;> first | exact trivial | (intro i _; rw [Nat.zero_add]; exact A.sim.refl _) | with_reducible exact rfl | exact fun _ _ => A.sim.refl _ | exact A.sim.refl _ | exact rfl | exact Nat.le_refl _ | omega | exact fun i _ => shift_sim _ _ i | exact fun _ _ => trivial | exact fun _ h => absurd h (Nat.not_lt_zero _) | exact ⟨rfl, rfl⟩ | exact sim3 (A.sim.of rfl) (A.sim.of (apart_app _ _)) (A.sim.of rfl) | exact sim3 (A.sim.of rfl) (A.sim.of (rfl)) (A.sim.of rfl))); (conv => whnf))
            | (refine W.callA (read_does (DK.set x.2 1 (DK.appF (DK.get x.2 1) (l.getD x.1 []))) 1 hok2) rfl rfl rfl rfl hΓ rfl ?_; (conv => whnf); refine ⟨rfl, rfl, ?_, ?_, ?_, ?_⟩; iterate 3 (focus ((repeat' apply And.intro) <;> first | exact trivial | (intro i _; rw [Nat.zero_add]; exact A.sim.refl _) | with_reducible exact rfl | exact fun _ _ => A.sim.refl _ | exact A.sim.refl _ | exact rfl | exact Nat.le_refl _ | omega | exact fun i _ => shift_sim _ _ i | exact fun _ _ => trivial | exact fun _ h => absurd h (Nat.not_lt_zero _) | exact ⟨rfl, rfl⟩ | exact sim3 (A.sim.of rfl) (A.sim.of (apart_app _ _)) (A.sim.of rfl) | exact sim3 (A.sim.of rfl) (A.sim.of (rfl)) (A.sim.of rfl))); (conv => whnf))
            | (refine D.callAR (read_does (DK.set x.2 1 (DK.appF (DK.get x.2 1) (l.getD x.1 []))) 2 hok2) rfl rfl rfl rfl hΓ rfl ?_; (conv => whnf); refine ⟨rfl, rfl, rfl, rfl, ?_, ?_, ?_, ?_, ?_⟩; iterate 4 (focus ((repeat' apply And.intro) <;> first | exact trivial | (intro i _; rw [Nat.zero_add]; exact A.sim.refl _) | with_reducible exact rfl | exact fun _ _ => A.sim.refl _ | exact A.sim.refl _ | exact rfl | exact Nat.le_refl _ | omega | exact fun i _ => shift_sim _ _ i | exact fun _ _ => trivial | exact fun _ h => absurd h (Nat.not_lt_zero _) | exact ⟨rfl, rfl⟩ | exact sim3 (A.sim.of rfl) (A.sim.of (apart_app _ _)) (A.sim.of rfl) | exact sim3 (A.sim.of rfl) (A.sim.of (rfl)) (A.sim.of rfl))); (conv => whnf))
            | (refine W.callA (read_does (DK.set x.2 1 (DK.appF (DK.get x.2 1) (l.getD x.1 []))) 2 hok2) rfl rfl rfl rfl hΓ rfl ?_; (conv => whnf); refine ⟨rfl, rfl, ?_, ?_, ?_, ?_⟩; iterate 3 (focus ((repeat' apply And.intro) <;> first | exact trivial | (intro i _; rw [Nat.zero_add]; exact A.sim.refl _) | with_reducible exact rfl | exact fun _ _ => A.sim.refl _ | exact A.sim.refl _ | exact rfl | exact Nat.le_refl _ | omega | exact fun i _ => shift_sim _ _ i | exact fun _ _ => trivial | exact fun _ h => absurd h (Nat.not_lt_zero _) | exact ⟨rfl, rfl⟩ | exact sim3 (A.sim.of rfl) (A.sim.of (apart_app _ _)) (A.sim.of rfl) | exact sim3 (A.sim.of rfl) (A.sim.of (rfl)) (A.sim.of rfl))); (conv => whnf))
            | (refine D.callAR (sure_does (DK.set x.2 1 (DK.appF (DK.get x.2 1) (l.getD x.1 []))) 0) rfl rfl rfl rfl hΓ rfl ?_; (conv => whnf); refine ⟨rfl, rfl, rfl, rfl, ?_, ?_, ?_, ?_, ?_⟩; iterate 4 (focus ((repeat' apply And.intro) <;> first | exact trivial | (intro i _; rw [Nat.zero_add]; exact A.sim.refl _) | with_reducible exact rfl | exact fun _ _ => A.sim.refl _ | exact A.sim.refl _ | exact rfl | exact Nat.le_refl _ | omega | exact fun i _ => shift_sim _ _ i | exact fun _ _ => trivial | exact fun _ h => absurd h (Nat.not_lt_zero _) | exact ⟨rfl, rfl⟩ | exact sim3 (A.sim.of rfl) (A.sim.of (apart_app _ _)) (A.sim.of rfl) | exact sim3 (A.sim.of rfl) (A.sim.of (rfl)) (A.sim.of rfl))); (conv => whnf))
            | (refine W.callA (sure_does (DK.set x.2 1 (DK.appF (DK.get x.2 1) (l.getD x.1 []))) 0) rfl rfl rfl rfl hΓ rfl ?_; (conv => whnf); refine ⟨rfl, rfl, ?_, ?_, ?_, ?_⟩; iterate 3 (focus ((repeat' apply And.intro) <;> first | exact trivial | (intro i _; rw [Nat.zero_add]; exact A.sim.refl _) | with_reducible exact rfl | exact fun _ _ => A.sim.refl _ | exact A.sim.refl _ | exact rfl | exact Nat.le_refl _ | omega | exact fun i _ => shift_sim _ _ i | exact fun _ _ => trivial | exact fun _ h => absurd h (Nat.not_lt_zero _) | exact ⟨rfl, rfl⟩ | exact sim3 (A.sim.of rfl) (A.sim.of (apart_app _ _)) (A.sim.of rfl) | exact sim3 (A.sim.of rfl) (A.sim.of (rfl)) (A.sim.of rfl))); (conv => whnf))
            | (refine D.callAR (sure_does (DK.set x.2 1 (DK.appF (DK.get x.2 1) (l.getD x.1 []))) 1) rfl rfl rfl rfl hΓ rfl ?_; (conv => whnf); refine ⟨rfl, rfl, rfl, rfl, ?_, ?_, ?_, ?_, ?_⟩; iterate 4 (focus ((repeat' apply And.intro) <;> first | exact trivial | (intro i _; rw [Nat.zero_add]; exact A.sim.refl _) | with_reducible exact rfl | exact fun _ _ => A.sim.refl _ | exact A.sim.refl _ | exact rfl | exact Nat.le_refl _ | omega | exact fun i _ => shift_sim _ _ i | exact fun _ _ => trivial | exact fun _ h => absurd h (Nat.not_lt_zero _) | exact ⟨rfl, rfl⟩ | exact sim3 (A.sim.of rfl) (A.sim.of (apart_app _ _)) (A.sim.of rfl) | exact sim3 (A.sim.of rfl) (A.sim.of (rfl)) (A.sim.of rfl))); (conv => whnf))
            | (refine W.callA (sure_does (DK.set x.2 1 (DK.appF (DK.get x.2 1) (l.getD x.1 []))) 1) rfl rfl rfl rfl hΓ rfl ?_; (conv => whnf); refine ⟨rfl, rfl, ?_, ?_, ?_, ?_⟩; iterate 3 (focus ((repeat' apply And.intro) <;> first | exact trivial | (intro i _; rw [Nat.zero_add]; exact A.sim.refl _) | with_reducible exact rfl | exact fun _ _ => A.sim.refl _ | exact A.sim.refl _ | exact rfl | exact Nat.le_refl _ | omega | exact fun i _ => shift_sim _ _ i | exact fun _ _ => trivial | exact fun _ h => absurd h (Nat.not_lt_zero _) | exact ⟨rfl, rfl⟩ | exact sim3 (A.sim.of rfl) (A.sim.of (apart_app _ _)) (A.sim.of rfl) | exact sim3 (A.sim.of rfl) (A.sim.of (rfl)) (A.sim.of rfl))); (conv => whnf))
            | (refine D.callAR (sure_does (DK.set x.2 1 (DK.appF (DK.get x.2 1) (l.getD x.1 []))) 2) rfl rfl rfl rfl hΓ rfl ?_; (conv => whnf); refine ⟨rfl, rfl, rfl, rfl, ?_, ?_, ?_, ?_, ?_⟩; iterate 4 (focus ((repeat' apply And.intro) <;> first | exact trivial | (intro i _; rw [Nat.zero_add]; exact A.sim.refl _) | with_reducible exact rfl | exact fun _ _ => A.sim.refl _ | exact A.sim.refl _ | exact rfl | exact Nat.le_refl _ | omega | exact fun i _ => shift_sim _ _ i | exact fun _ _ => trivial | exact fun _ h => absurd h (Nat.not_lt_zero _) | exact ⟨rfl, rfl⟩ | exact sim3 (A.sim.of rfl) (A.sim.of (apart_app _ _)) (A.sim.of rfl) | exact sim3 (A.sim.of rfl) (A.sim.of (rfl)) (A.sim.of rfl))); (conv => whnf))
            | (refine W.callA (sure_does (DK.set x.2 1 (DK.appF (DK.get x.2 1) (l.getD x.1 []))) 2) rfl rfl rfl rfl hΓ rfl ?_; (conv => whnf); refine ⟨rfl, rfl, ?_, ?_, ?_, ?_⟩; iterate 3 (focus ((repeat' apply And.intro) <;> first | exact trivial | (intro i _; rw [Nat.zero_add]; exact A.sim.refl _) | with_reducible exact rfl | exact fun _ _ => A.sim.refl _ | exact A.sim.refl _ | exact rfl | exact Nat.le_refl _ | omega | exact fun i _ => shift_sim _ _ i | exact fun _ _ => trivial | exact fun _ h => absurd h (Nat.not_lt_zero _) | exact ⟨rfl, rfl⟩ | exact sim3 (A.sim.of rfl) (A.sim.of (apart_app _ _)) (A.sim.of rfl) | exact sim3 (A.sim.of rfl) (A.sim.of (rfl)) (A.sim.of rfl))); (conv => whnf))
            | (refine W.go TfOK 118 hΓ 1000 rfl ?_; (conv => whnf); refine ⟨?_, ?_⟩)
            | (refine D.go TfOK 118 hΓ 1000 rfl ?_; (conv => whnf); refine ⟨?_, ?_⟩)
            | (refine W.drawn rfl rfl ?_; refine D.run TfOK 118 hΓ 1000 ?_; (conv => whnf); refine ⟨?_, ?_⟩)
          all_goals (repeat' apply And.intro)
          all_goals try (first
            | exact trivial
            | exact rfl
            | exact fun _ _ => A.sim.refl _
            | exact A.sim.refl _
            | exact Nat.le_refl _
            | omega
            | exact fun _ _ => trivial
            | exact fun i _ => shift_sim _ _ i
            | exact fun _ h => absurd h (Nat.not_lt_zero _)
            | exact fun i _ => isInt_byteAt _ i
            | (intro i _; exact isInt_byteAt _ _)
            | exact hst.2.2
            | (intro i _; exact isInt_cat _ _ _ _)
            | (simp only [allP, List.nil_append, List.append_nil, List.cons_append, List.append_eq, and_true, true_and, inr_i64, inr_u8, inr_u64, min_i64, max_i64, min_u64, max_u64, min_u8, max_u8, A.purePL, A.pureP, A.sureP, A.surePL, Int.toNat_natCast, Int.reduceToNat, addI, cHi, cLo, hiN, loN, subO, addO, hasIdx, cond_true, cond_false]; first | done | omega | ((repeat' apply And.intro) <;> first | exact trivial | rfl | omega | decide))
            | (show (x.2.f1.b.length + (l.getD x.1 []).length) * 1 ≤ 17592186044416; omega)
            | (show x.2.f1.b.length * 1 ≤ 17592186044416; omega)
            )
      · have hfv : IntKind.i64.wrap (((fs.getD x.1 0).toNat : Int) % 3) = 2 := by rw [wrap_i64_in (by omega) (by omega)]; omega
        refine W.seeA ([(9, .int .i64 2)]) ([]) [] ?_
        (conv => whnf); refine ⟨?_, ?_⟩; focus ((conv => whnf); refine ⟨rfl, rfl, rfl, rfl, rfl, rfl, ?_, ?_⟩; iterate 2 (focus ((repeat' apply And.intro) <;> first | exact trivial | (intro i _; rw [Nat.zero_add]; exact A.sim.refl _) | with_reducible exact rfl | exact fun _ _ => A.sim.refl _ | exact A.sim.refl _ | exact rfl | exact Nat.le_refl _ | omega | exact fun i _ => shift_sim _ _ i | exact fun _ _ => trivial | exact fun _ h => absurd h (Nat.not_lt_zero _) | exact hfv)))
        by_cases h200 : 200 ≤ (fs.getD x.1 0).toNat
        · have hst := hJ.sync hil 2 (by decide)
          have hok2 := hst.2.2.ok hl20
          have ca := sync_does x.2 ((2 : Nat) : Int) hok
          rw [hst.1, hst.2.1] at ca
          repeat' first
            | assumption
            | exact Bool.noConfusion hb
            | exact absurd hb (by decide)
            | (refine W.toA (ih (x.1 + 1, (DK.set x.2 2 (DK.syncF (DK.get x.2 2)))) ?_ ?_) ?_; rotate_left 2; (conv => whnf); refine ⟨rfl, rfl, rfl, rfl, rfl, rfl, ?_, ?_⟩; iterate 2 (focus ((repeat' apply And.intro) <;> first | exact trivial | (intro i _; rw [Nat.zero_add]; exact A.sim.refl _) | with_reducible exact rfl | exact fun _ _ => A.sim.refl _ | exact A.sim.refl _ | exact rfl | exact Nat.le_refl _ | omega | exact fun i _ => shift_sim _ _ i | exact fun _ _ => trivial | exact fun _ h => absurd h (Nat.not_lt_zero _) | exact ⟨rfl, rfl⟩ | exact sim3 (A.sim.of rfl) (A.sim.of rfl) (A.sim.of (sync_bytes _)) | exact sim3 (A.sim.of rfl) (A.sim.of rfl) (A.sim.of (rfl)))))
            | (exfalso; omega)
            | (refine W.enter ?_)
            | (refine W.again ?_)
            | (exfalso; simp at hb; done)
            | (exfalso; have hb2 : (200 : Int) ≤ ((fs.getD x.1 0).toNat : Int) := hb; omega)
            | (exfalso; have hb2 : ((fs.getD x.1 0).toNat : Int) < 200 := hb; omega)
            | exact absurd rfl hb
            | exact absurd (sync_str _) hb
            | (refine W.retY TfOK rfl rfl ⟨?_, ?_⟩)
            | (refine W.branch rfl (fun hb => ?_) (fun hb => ?_) <;> ((try simp only [decide_eq_true_eq, decide_eq_false_iff_not, Bool.not_eq_true', Bool.not_eq_false', Int.not_lt, Int.not_le, cond_true, cond_false, reduceCtorEq, Int.toNat_natCast, Int.reduceToNat, addI] at hb); (try replace hb := of_decide_eq_true hb); (try replace hb := of_decide_eq_false hb)))
            | (refine D.branch rfl (fun hb => ?_) (fun hb => ?_) <;> ((try simp only [decide_eq_true_eq, decide_eq_false_iff_not, Bool.not_eq_true', Bool.not_eq_false', Int.not_lt, Int.not_le, cond_true, cond_false, reduceCtorEq, Int.toNat_natCast, Int.reduceToNat, addI] at hb); (try replace hb := of_decide_eq_true hb); (try replace hb := of_decide_eq_false hb)))
            | ((first | (refine D.callA (ca) rfl rfl rfl rfl hΓ rfl ?_; (conv => whnf); refine ⟨rfl, rfl, rfl, ?_, ?_, ?_, ?_⟩) | (refine W.callA (ca) rfl rfl rfl rfl hΓ rfl ?_; (conv => whnf); refine ⟨rfl, rfl, ?_, ?_, ?_, ?_⟩)); iterate 3 (focus ((repeat' apply And.intro) <;> first | exact trivial | (intro i _; rw [Nat.zero_add]; exact A.sim.refl _) | with_reducible exact rfl | exact fun _ _ => A.sim.refl _ | exact A.sim.refl _ | exact rfl | exact Nat.le_refl _ | omega | exact fun i _ => shift_sim _ _ i | exact fun _ _ => trivial | exact fun _ h => absurd h (Nat.not_lt_zero _) | exact ⟨rfl, rfl⟩ | exact sim3 (A.sim.of rfl) (A.sim.of rfl) (A.sim.of (sync_bytes _)) | exact sim3 (A.sim.of rfl) (A.sim.of rfl) (A.sim.of (rfl)))); (conv => whnf))
            | (refine D.callAR (read_does (DK.set x.2 2 (DK.syncF (DK.get x.2 2))) 0 hok2) rfl rfl rfl rfl hΓ rfl ?_; (conv => whnf); refine ⟨rfl, rfl, rfl, rfl, ?_, ?_, ?_, ?_, ?_⟩; iterate 4 (focus ((repeat' apply And.intro) <;> first | exact trivial | (intro i _; rw [Nat.zero_add]; exact A.sim.refl _) | with_reducible exact rfl | exact fun _ _ => A.sim.refl _ | exact A.sim.refl _ | exact rfl | exact Nat.le_refl _ | omega | exact fun i _ => shift_sim _ _ i | exact fun _ _ => trivial | exact fun _ h => absurd h (Nat.not_lt_zero _) | exact ⟨rfl, rfl⟩ | exact sim3 (A.sim.of rfl) (A.sim.of rfl) (A.sim.of (sync_bytes _)) | exact sim3 (A.sim.of rfl) (A.sim.of rfl) (A.sim.of (rfl)))); (conv => whnf))
            | (refine W.callA (read_does (DK.set x.2 2 (DK.syncF (DK.get x.2 2))) 0 hok2) rfl rfl rfl rfl hΓ rfl ?_; (conv => whnf); refine ⟨rfl, rfl, ?_, ?_, ?_, ?_⟩; iterate 3 (focus ((repeat' apply And.intro) <;> first | exact trivial | (intro i _; rw [Nat.zero_add]; exact A.sim.refl _) | with_reducible exact rfl | exact fun _ _ => A.sim.refl _ | exact A.sim.refl _ | exact rfl | exact Nat.le_refl _ | omega | exact fun i _ => shift_sim _ _ i | exact fun _ _ => trivial | exact fun _ h => absurd h (Nat.not_lt_zero _) | exact ⟨rfl, rfl⟩ | exact sim3 (A.sim.of rfl) (A.sim.of rfl) (A.sim.of (sync_bytes _)) | exact sim3 (A.sim.of rfl) (A.sim.of rfl) (A.sim.of (rfl)))); (conv => whnf))
            | (refine D.callAR (read_does (DK.set x.2 2 (DK.syncF (DK.get x.2 2))) 1 hok2) rfl rfl rfl rfl hΓ rfl ?_; (conv => whnf); refine ⟨rfl, rfl, rfl, rfl, ?_, ?_, ?_, ?_, ?_⟩; iterate 4 (focus ((repeat' apply And.intro) <;> first | exact trivial | (intro i _; rw [Nat.zero_add]; exact A.sim.refl _) | with_reducible exact rfl | exact fun _ _ => A.sim.refl _ | exact A.sim.refl _ | exact rfl | exact Nat.le_refl _ | omega | exact fun i _ => shift_sim _ _ i | exact fun _ _ => trivial | exact fun _ h => absurd h (Nat.not_lt_zero _) | exact ⟨rfl, rfl⟩ | exact sim3 (A.sim.of rfl) (A.sim.of rfl) (A.sim.of (sync_bytes _)) | exact sim3 (A.sim.of rfl) (A.sim.of rfl) (A.sim.of (rfl)))); (conv => whnf))
            | (refine W.callA (read_does (DK.set x.2 2 (DK.syncF (DK.get x.2 2))) 1 hok2) rfl rfl rfl rfl hΓ rfl ?_; (conv => whnf); refine ⟨rfl, rfl, ?_, ?_, ?_, ?_⟩; iterate 3 (focus ((repeat' apply And.intro) <;> first | exact trivial | (intro i _; rw [Nat.zero_add]; exact A.sim.refl _) | with_reducible exact rfl | exact fun _ _ => A.sim.refl _ | exact A.sim.refl _ | exact rfl | exact Nat.le_refl _ | omega | exact fun i _ => shift_sim _ _ i | exact fun _ _ => trivial | exact fun _ h => absurd h (Nat.not_lt_zero _) | exact ⟨rfl, rfl⟩ | exact sim3 (A.sim.of rfl) (A.sim.of rfl) (A.sim.of (sync_bytes _)) | exact sim3 (A.sim.of rfl) (A.sim.of rfl) (A.sim.of (rfl)))); (conv => whnf))
            | (refine D.callAR (read_does (DK.set x.2 2 (DK.syncF (DK.get x.2 2))) 2 hok2) rfl rfl rfl rfl hΓ rfl ?_; (conv => whnf); refine ⟨rfl, rfl, rfl, rfl, ?_, ?_, ?_, ?_, ?_⟩; iterate 4 (focus ((repeat' apply And.intro) <;> first | exact trivial | (intro i _; rw [Nat.zero_add]; exact A.sim.refl _) | with_reducible exact rfl | exact fun _ _ => A.sim.refl _ | exact A.sim.refl _ | exact rfl | exact Nat.le_refl _ | omega | exact fun i _ => shift_sim _ _ i | exact fun _ _ => trivial | exact fun _ h => absurd h (Nat.not_lt_zero _) | exact ⟨rfl, rfl⟩ | exact sim3 (A.sim.of rfl) (A.sim.of rfl) (A.sim.of (sync_bytes _)) | exact sim3 (A.sim.of rfl) (A.sim.of rfl) (A.sim.of (rfl)))); (conv => whnf))
            | (refine W.callA (read_does (DK.set x.2 2 (DK.syncF (DK.get x.2 2))) 2 hok2) rfl rfl rfl rfl hΓ rfl ?_; (conv => whnf); refine ⟨rfl, rfl, ?_, ?_, ?_, ?_⟩; iterate 3 (focus ((repeat' apply And.intro) <;> first | exact trivial | (intro i _; rw [Nat.zero_add]; exact A.sim.refl _) | with_reducible exact rfl | exact fun _ _ => A.sim.refl _ | exact A.sim.refl _ | exact rfl | exact Nat.le_refl _ | omega | exact fun i _ => shift_sim _ _ i | exact fun _ _ => trivial | exact fun _ h => absurd h (Nat.not_lt_zero _) | exact ⟨rfl, rfl⟩ | exact sim3 (A.sim.of rfl) (A.sim.of rfl) (A.sim.of (sync_bytes _)) | exact sim3 (A.sim.of rfl) (A.sim.of rfl) (A.sim.of (rfl)))); (conv => whnf))
            | (refine D.callAR (sure_does (DK.set x.2 2 (DK.syncF (DK.get x.2 2))) 0) rfl rfl rfl rfl hΓ rfl ?_; (conv => whnf); refine ⟨rfl, rfl, rfl, rfl, ?_, ?_, ?_, ?_, ?_⟩; iterate 4 (focus ((repeat' apply And.intro) <;> first | exact trivial | (intro i _; rw [Nat.zero_add]; exact A.sim.refl _) | with_reducible exact rfl | exact fun _ _ => A.sim.refl _ | exact A.sim.refl _ | exact rfl | exact Nat.le_refl _ | omega | exact fun i _ => shift_sim _ _ i | exact fun _ _ => trivial | exact fun _ h => absurd h (Nat.not_lt_zero _) | exact ⟨rfl, rfl⟩ | exact sim3 (A.sim.of rfl) (A.sim.of rfl) (A.sim.of (sync_bytes _)) | exact sim3 (A.sim.of rfl) (A.sim.of rfl) (A.sim.of (rfl)))); (conv => whnf))
            | (refine W.callA (sure_does (DK.set x.2 2 (DK.syncF (DK.get x.2 2))) 0) rfl rfl rfl rfl hΓ rfl ?_; (conv => whnf); refine ⟨rfl, rfl, ?_, ?_, ?_, ?_⟩; iterate 3 (focus ((repeat' apply And.intro) <;> first | exact trivial | (intro i _; rw [Nat.zero_add]; exact A.sim.refl _) | with_reducible exact rfl | exact fun _ _ => A.sim.refl _ | exact A.sim.refl _ | exact rfl | exact Nat.le_refl _ | omega | exact fun i _ => shift_sim _ _ i | exact fun _ _ => trivial | exact fun _ h => absurd h (Nat.not_lt_zero _) | exact ⟨rfl, rfl⟩ | exact sim3 (A.sim.of rfl) (A.sim.of rfl) (A.sim.of (sync_bytes _)) | exact sim3 (A.sim.of rfl) (A.sim.of rfl) (A.sim.of (rfl)))); (conv => whnf))
            | (refine D.callAR (sure_does (DK.set x.2 2 (DK.syncF (DK.get x.2 2))) 1) rfl rfl rfl rfl hΓ rfl ?_; (conv => whnf); refine ⟨rfl, rfl, rfl, rfl, ?_, ?_, ?_, ?_, ?_⟩; iterate 4 (focus ((repeat' apply And.intro) <;> first | exact trivial | (intro i _; rw [Nat.zero_add]; exact A.sim.refl _) | with_reducible exact rfl | exact fun _ _ => A.sim.refl _ | exact A.sim.refl _ | exact rfl | exact Nat.le_refl _ | omega | exact fun i _ => shift_sim _ _ i | exact fun _ _ => trivial | exact fun _ h => absurd h (Nat.not_lt_zero _) | exact ⟨rfl, rfl⟩ | exact sim3 (A.sim.of rfl) (A.sim.of rfl) (A.sim.of (sync_bytes _)) | exact sim3 (A.sim.of rfl) (A.sim.of rfl) (A.sim.of (rfl)))); (conv => whnf))
            | (refine W.callA (sure_does (DK.set x.2 2 (DK.syncF (DK.get x.2 2))) 1) rfl rfl rfl rfl hΓ rfl ?_; (conv => whnf); refine ⟨rfl, rfl, ?_, ?_, ?_, ?_⟩; iterate 3 (focus ((repeat' apply And.intro) <;> first | exact trivial | (intro i _; rw [Nat.zero_add]; exact A.sim.refl _) | with_reducible exact rfl | exact fun _ _ => A.sim.refl _ | exact A.sim.refl _ | exact rfl | exact Nat.le_refl _ | omega | exact fun i _ => shift_sim _ _ i | exact fun _ _ => trivial | exact fun _ h => absurd h (Nat.not_lt_zero _) | exact ⟨rfl, rfl⟩ | exact sim3 (A.sim.of rfl) (A.sim.of rfl) (A.sim.of (sync_bytes _)) | exact sim3 (A.sim.of rfl) (A.sim.of rfl) (A.sim.of (rfl)))); (conv => whnf))
            | (refine D.callAR (sure_does (DK.set x.2 2 (DK.syncF (DK.get x.2 2))) 2) rfl rfl rfl rfl hΓ rfl ?_; (conv => whnf); refine ⟨rfl, rfl, rfl, rfl, ?_, ?_, ?_, ?_, ?_⟩; iterate 4 (focus ((repeat' apply And.intro) <;> first | exact trivial | (intro i _; rw [Nat.zero_add]; exact A.sim.refl _) | with_reducible exact rfl | exact fun _ _ => A.sim.refl _ | exact A.sim.refl _ | exact rfl | exact Nat.le_refl _ | omega | exact fun i _ => shift_sim _ _ i | exact fun _ _ => trivial | exact fun _ h => absurd h (Nat.not_lt_zero _) | exact ⟨rfl, rfl⟩ | exact sim3 (A.sim.of rfl) (A.sim.of rfl) (A.sim.of (sync_bytes _)) | exact sim3 (A.sim.of rfl) (A.sim.of rfl) (A.sim.of (rfl)))); (conv => whnf))
            | (refine W.callA (sure_does (DK.set x.2 2 (DK.syncF (DK.get x.2 2))) 2) rfl rfl rfl rfl hΓ rfl ?_; (conv => whnf); refine ⟨rfl, rfl, ?_, ?_, ?_, ?_⟩; iterate 3 (focus ((repeat' apply And.intro) <;> first | exact trivial | (intro i _; rw [Nat.zero_add]; exact A.sim.refl _) | with_reducible exact rfl | exact fun _ _ => A.sim.refl _ | exact A.sim.refl _ | exact rfl | exact Nat.le_refl _ | omega | exact fun i _ => shift_sim _ _ i | exact fun _ _ => trivial | exact fun _ h => absurd h (Nat.not_lt_zero _) | exact ⟨rfl, rfl⟩ | exact sim3 (A.sim.of rfl) (A.sim.of rfl) (A.sim.of (sync_bytes _)) | exact sim3 (A.sim.of rfl) (A.sim.of rfl) (A.sim.of (rfl)))); (conv => whnf))
            | (refine W.go TfOK 118 hΓ 1000 rfl ?_; (conv => whnf); refine ⟨?_, ?_⟩)
            | (refine D.go TfOK 118 hΓ 1000 rfl ?_; (conv => whnf); refine ⟨?_, ?_⟩)
            | (refine W.drawn rfl rfl ?_; refine D.run TfOK 118 hΓ 1000 ?_; (conv => whnf); refine ⟨?_, ?_⟩)
          all_goals (repeat' apply And.intro)
          all_goals try (first
            | exact trivial
            | exact rfl
            | exact fun _ _ => A.sim.refl _
            | exact A.sim.refl _
            | exact Nat.le_refl _
            | omega
            | exact fun _ _ => trivial
            | exact fun i _ => shift_sim _ _ i
            | exact fun _ h => absurd h (Nat.not_lt_zero _)
            | exact fun i _ => isInt_byteAt _ i
            | (intro i _; exact isInt_byteAt _ _)
            | exact hst.2.2
            | (intro i _; exact isInt_cat _ _ _ _)
            | (simp only [allP, List.nil_append, List.append_nil, List.cons_append, List.append_eq, and_true, true_and, inr_i64, inr_u8, inr_u64, min_i64, max_i64, min_u64, max_u64, min_u8, max_u8, A.purePL, A.pureP, A.sureP, A.surePL, Int.toNat_natCast, Int.reduceToNat, addI, cHi, cLo, hiN, loN, subO, addO, hasIdx, cond_true, cond_false]; first | done | omega | ((repeat' apply And.intro) <;> first | exact trivial | rfl | omega | decide))
            | (show (x.2.f2.b.length + (l.getD x.1 []).length) * 1 ≤ 17592186044416; omega)
            | (show x.2.f2.b.length * 1 ≤ 17592186044416; omega)
            )
        · have hst := hJ.app hl20 hil 2 (by decide) (l.getD x.1 []) hx
          have hok2 := hst.2.2.ok hl20
          have ca := append_does x.2 ((2 : Nat) : Int) (l.getD x.1 []) hok (by omega)
          rw [hst.1, hst.2.1] at ca
          repeat' first
            | assumption
            | exact Bool.noConfusion hb
            | exact absurd hb (by decide)
            | (refine W.toA (ih (x.1 + 1, (DK.set x.2 2 (DK.appF (DK.get x.2 2) (l.getD x.1 [])))) ?_ ?_) ?_; rotate_left 2; (conv => whnf); refine ⟨rfl, rfl, rfl, rfl, rfl, rfl, ?_, ?_⟩; iterate 2 (focus ((repeat' apply And.intro) <;> first | exact trivial | (intro i _; rw [Nat.zero_add]; exact A.sim.refl _) | with_reducible exact rfl | exact fun _ _ => A.sim.refl _ | exact A.sim.refl _ | exact rfl | exact Nat.le_refl _ | omega | exact fun i _ => shift_sim _ _ i | exact fun _ _ => trivial | exact fun _ h => absurd h (Nat.not_lt_zero _) | exact ⟨rfl, rfl⟩ | exact sim3 (A.sim.of rfl) (A.sim.of rfl) (A.sim.of (apart_app _ _)) | exact sim3 (A.sim.of rfl) (A.sim.of rfl) (A.sim.of (rfl)))))
            | (exfalso; omega)
            | (refine W.enter ?_)
            | (refine W.again ?_)
            | (exfalso; simp at hb; done)
            | (exfalso; have hb2 : (200 : Int) ≤ ((fs.getD x.1 0).toNat : Int) := hb; omega)
            | (exfalso; have hb2 : ((fs.getD x.1 0).toNat : Int) < 200 := hb; omega)
            | exact absurd rfl hb
            | exact absurd (apart_str _ _) hb
            | (refine W.retY TfOK rfl rfl ⟨?_, ?_⟩)
            | (refine W.branch rfl (fun hb => ?_) (fun hb => ?_) <;> ((try simp only [decide_eq_true_eq, decide_eq_false_iff_not, Bool.not_eq_true', Bool.not_eq_false', Int.not_lt, Int.not_le, cond_true, cond_false, reduceCtorEq, Int.toNat_natCast, Int.reduceToNat, addI] at hb); (try replace hb := of_decide_eq_true hb); (try replace hb := of_decide_eq_false hb)))
            | (refine D.branch rfl (fun hb => ?_) (fun hb => ?_) <;> ((try simp only [decide_eq_true_eq, decide_eq_false_iff_not, Bool.not_eq_true', Bool.not_eq_false', Int.not_lt, Int.not_le, cond_true, cond_false, reduceCtorEq, Int.toNat_natCast, Int.reduceToNat, addI] at hb); (try replace hb := of_decide_eq_true hb); (try replace hb := of_decide_eq_false hb)))
            | ((first | (refine D.callA (ca) rfl rfl rfl rfl hΓ rfl ?_; (conv => whnf); refine ⟨rfl, rfl, rfl, ?_, ?_, ?_, ?_⟩) | (refine W.callA (ca) rfl rfl rfl rfl hΓ rfl ?_; (conv => whnf); refine ⟨rfl, rfl, ?_, ?_, ?_, ?_⟩)); iterate 3 (focus ((repeat' apply And.intro) <;> first | exact trivial | (intro i _; rw [Nat.zero_add]; exact A.sim.refl _) | with_reducible exact rfl | exact fun _ _ => A.sim.refl _ | exact A.sim.refl _ | exact rfl | exact Nat.le_refl _ | omega | exact fun i _ => shift_sim _ _ i | exact fun _ _ => trivial | exact fun _ h => absurd h (Nat.not_lt_zero _) | exact ⟨rfl, rfl⟩ | exact sim3 (A.sim.of rfl) (A.sim.of rfl) (A.sim.of (apart_app _ _)) | exact sim3 (A.sim.of rfl) (A.sim.of rfl) (A.sim.of (rfl)))); (conv => whnf))
            | (refine D.callAR (read_does (DK.set x.2 2 (DK.appF (DK.get x.2 2) (l.getD x.1 []))) 0 hok2) rfl rfl rfl rfl hΓ rfl ?_; (conv => whnf); refine ⟨rfl, rfl, rfl, rfl, ?_, ?_, ?_, ?_, ?_⟩; iterate 4 (focus ((repeat' apply And.intro) <;> first | exact trivial | (intro i _; rw [Nat.zero_add]; exact A.sim.refl _) | with_reducible exact rfl | exact fun _ _ => A.sim.refl _ | exact A.sim.refl _ | exact rfl | exact Nat.le_refl _ | omega | exact fun i _ => shift_sim _ _ i | exact fun _ _ => trivial | exact fun _ h => absurd h (Nat.not_lt_zero _) | exact ⟨rfl, rfl⟩ | exact sim3 (A.sim.of rfl) (A.sim.of rfl) (A.sim.of (apart_app _ _)) | exact sim3 (A.sim.of rfl) (A.sim.of rfl) (A.sim.of (rfl)))); (conv => whnf))
            | (refine W.callA (read_does (DK.set x.2 2 (DK.appF (DK.get x.2 2) (l.getD x.1 []))) 0 hok2) rfl rfl rfl rfl hΓ rfl ?_; (conv => whnf); refine ⟨rfl, rfl, ?_, ?_, ?_, ?_⟩; iterate 3 (focus ((repeat' apply And.intro) <;> first | exact trivial | (intro i _; rw [Nat.zero_add]; exact A.sim.refl _) | with_reducible exact rfl | exact fun _ _ => A.sim.refl _ | exact A.sim.refl _ | exact rfl | exact Nat.le_refl _ | omega | exact fun i _ => shift_sim _ _ i | exact fun _ _ => trivial | exact fun _ h => absurd h (Nat.not_lt_zero _) | exact ⟨rfl, rfl⟩ | exact sim3 (A.sim.of rfl) (A.sim.of rfl) (A.sim.of (apart_app _ _)) | exact sim3 (A.sim.of rfl) (A.sim.of rfl) (A.sim.of (rfl)))); (conv => whnf))
            | (refine D.callAR (read_does (DK.set x.2 2 (DK.appF (DK.get x.2 2) (l.getD x.1 []))) 1 hok2) rfl rfl rfl rfl hΓ rfl ?_; (conv => whnf); refine ⟨rfl, rfl, rfl, rfl, ?_, ?_, ?_, ?_, ?_⟩; iterate 4 (focus ((repeat' apply And.intro) <;> first | exact trivial | (intro i _; rw [Nat.zero_add]; exact A.sim.refl _) | with_reducible exact rfl | exact fun _ _ => A.sim.refl _ | exact A.sim.refl _ | exact rfl | exact Nat.le_refl _ | omega | exact fun i _ => shift_sim _ _ i | exact fun _ _ => trivial | exact fun _ h => absurd h (Nat.not_lt_zero _) | exact ⟨rfl, rfl⟩ | exact sim3 (A.sim.of rfl) (A.sim.of rfl) (A.sim.of (apart_app _ _)) | exact sim3 (A.sim.of rfl) (A.sim.of rfl) (A.sim.of (rfl)))); (conv => whnf))
            | (refine W.callA (read_does (DK.set x.2 2 (DK.appF (DK.get x.2 2) (l.getD x.1 []))) 1 hok2) rfl rfl rfl rfl hΓ rfl ?_; (conv => whnf); refine ⟨rfl, rfl, ?_, ?_, ?_, ?_⟩; iterate 3 (focus ((repeat' apply And.intro) <;> first | exact trivial | (intro i _; rw [Nat.zero_add]; exact A.sim.refl _) | with_reducible exact rfl | exact fun _ _ => A.sim.refl _ | exact A.sim.refl _ | exact rfl | exact Nat.le_refl _ | omega | exact fun i _ => shift_sim _ _ i | exact fun _ _ => trivial | exact fun _ h => absurd h (Nat.not_lt_zero _) | exact ⟨rfl, rfl⟩ | exact sim3 (A.sim.of rfl) (A.sim.of rfl) (A.sim.of (apart_app _ _)) | exact sim3 (A.sim.of rfl) (A.sim.of rfl) (A.sim.of (rfl)))); (conv => whnf))
            | (refine D.callAR (read_does (DK.set x.2 2 (DK.appF (DK.get x.2 2) (l.getD x.1 []))) 2 hok2) rfl rfl rfl rfl hΓ rfl ?_; (conv => whnf); refine ⟨rfl, rfl, rfl, rfl, ?_, ?_, ?_, ?_, ?_⟩; iterate 4 (focus ((repeat' apply And.intro) <;> first | exact trivial | (intro i _; rw [Nat.zero_add]; exact A.sim.refl _) | with_reducible exact rfl | exact fun _ _ => A.sim.refl _ | exact A.sim.refl _ | exact rfl | exact Nat.le_refl _ | omega | exact fun i _ => shift_sim _ _ i | exact fun _ _ => trivial | exact fun _ h => absurd h (Nat.not_lt_zero _) | exact ⟨rfl, rfl⟩ | exact sim3 (A.sim.of rfl) (A.sim.of rfl) (A.sim.of (apart_app _ _)) | exact sim3 (A.sim.of rfl) (A.sim.of rfl) (A.sim.of (rfl)))); (conv => whnf))
            | (refine W.callA (read_does (DK.set x.2 2 (DK.appF (DK.get x.2 2) (l.getD x.1 []))) 2 hok2) rfl rfl rfl rfl hΓ rfl ?_; (conv => whnf); refine ⟨rfl, rfl, ?_, ?_, ?_, ?_⟩; iterate 3 (focus ((repeat' apply And.intro) <;> first | exact trivial | (intro i _; rw [Nat.zero_add]; exact A.sim.refl _) | with_reducible exact rfl | exact fun _ _ => A.sim.refl _ | exact A.sim.refl _ | exact rfl | exact Nat.le_refl _ | omega | exact fun i _ => shift_sim _ _ i | exact fun _ _ => trivial | exact fun _ h => absurd h (Nat.not_lt_zero _) | exact ⟨rfl, rfl⟩ | exact sim3 (A.sim.of rfl) (A.sim.of rfl) (A.sim.of (apart_app _ _)) | exact sim3 (A.sim.of rfl) (A.sim.of rfl) (A.sim.of (rfl)))); (conv => whnf))
            | (refine D.callAR (sure_does (DK.set x.2 2 (DK.appF (DK.get x.2 2) (l.getD x.1 []))) 0) rfl rfl rfl rfl hΓ rfl ?_; (conv => whnf); refine ⟨rfl, rfl, rfl, rfl, ?_, ?_, ?_, ?_, ?_⟩; iterate 4 (focus ((repeat' apply And.intro) <;> first | exact trivial | (intro i _; rw [Nat.zero_add]; exact A.sim.refl _) | with_reducible exact rfl | exact fun _ _ => A.sim.refl _ | exact A.sim.refl _ | exact rfl | exact Nat.le_refl _ | omega | exact fun i _ => shift_sim _ _ i | exact fun _ _ => trivial | exact fun _ h => absurd h (Nat.not_lt_zero _) | exact ⟨rfl, rfl⟩ | exact sim3 (A.sim.of rfl) (A.sim.of rfl) (A.sim.of (apart_app _ _)) | exact sim3 (A.sim.of rfl) (A.sim.of rfl) (A.sim.of (rfl)))); (conv => whnf))
            | (refine W.callA (sure_does (DK.set x.2 2 (DK.appF (DK.get x.2 2) (l.getD x.1 []))) 0) rfl rfl rfl rfl hΓ rfl ?_; (conv => whnf); refine ⟨rfl, rfl, ?_, ?_, ?_, ?_⟩; iterate 3 (focus ((repeat' apply And.intro) <;> first | exact trivial | (intro i _; rw [Nat.zero_add]; exact A.sim.refl _) | with_reducible exact rfl | exact fun _ _ => A.sim.refl _ | exact A.sim.refl _ | exact rfl | exact Nat.le_refl _ | omega | exact fun i _ => shift_sim _ _ i | exact fun _ _ => trivial | exact fun _ h => absurd h (Nat.not_lt_zero _) | exact ⟨rfl, rfl⟩ | exact sim3 (A.sim.of rfl) (A.sim.of rfl) (A.sim.of (apart_app _ _)) | exact sim3 (A.sim.of rfl) (A.sim.of rfl) (A.sim.of (rfl)))); (conv => whnf))
            | (refine D.callAR (sure_does (DK.set x.2 2 (DK.appF (DK.get x.2 2) (l.getD x.1 []))) 1) rfl rfl rfl rfl hΓ rfl ?_; (conv => whnf); refine ⟨rfl, rfl, rfl, rfl, ?_, ?_, ?_, ?_, ?_⟩; iterate 4 (focus ((repeat' apply And.intro) <;> first | exact trivial | (intro i _; rw [Nat.zero_add]; exact A.sim.refl _) | with_reducible exact rfl | exact fun _ _ => A.sim.refl _ | exact A.sim.refl _ | exact rfl | exact Nat.le_refl _ | omega | exact fun i _ => shift_sim _ _ i | exact fun _ _ => trivial | exact fun _ h => absurd h (Nat.not_lt_zero _) | exact ⟨rfl, rfl⟩ | exact sim3 (A.sim.of rfl) (A.sim.of rfl) (A.sim.of (apart_app _ _)) | exact sim3 (A.sim.of rfl) (A.sim.of rfl) (A.sim.of (rfl)))); (conv => whnf))
            | (refine W.callA (sure_does (DK.set x.2 2 (DK.appF (DK.get x.2 2) (l.getD x.1 []))) 1) rfl rfl rfl rfl hΓ rfl ?_; (conv => whnf); refine ⟨rfl, rfl, ?_, ?_, ?_, ?_⟩; iterate 3 (focus ((repeat' apply And.intro) <;> first | exact trivial | (intro i _; rw [Nat.zero_add]; exact A.sim.refl _) | with_reducible exact rfl | exact fun _ _ => A.sim.refl _ | exact A.sim.refl _ | exact rfl | exact Nat.le_refl _ | omega | exact fun i _ => shift_sim _ _ i | exact fun _ _ => trivial | exact fun _ h => absurd h (Nat.not_lt_zero _) | exact ⟨rfl, rfl⟩ | exact sim3 (A.sim.of rfl) (A.sim.of rfl) (A.sim.of (apart_app _ _)) | exact sim3 (A.sim.of rfl) (A.sim.of rfl) (A.sim.of (rfl)))); (conv => whnf))
            | (refine D.callAR (sure_does (DK.set x.2 2 (DK.appF (DK.get x.2 2) (l.getD x.1 []))) 2) rfl rfl rfl rfl hΓ rfl ?_; (conv => whnf); refine ⟨rfl, rfl, rfl, rfl, ?_, ?_, ?_, ?_, ?_⟩; iterate 4 (focus ((repeat' apply And.intro) <;> first | exact trivial | (intro i _; rw [Nat.zero_add]; exact A.sim.refl _) | with_reducible exact rfl | exact fun _ _ => A.sim.refl _ | exact A.sim.refl _ | exact rfl | exact Nat.le_refl _ | omega | exact fun i _ => shift_sim _ _ i | exact fun _ _ => trivial | exact fun _ h => absurd h (Nat.not_lt_zero _) | exact ⟨rfl, rfl⟩ | exact sim3 (A.sim.of rfl) (A.sim.of rfl) (A.sim.of (apart_app _ _)) | exact sim3 (A.sim.of rfl) (A.sim.of rfl) (A.sim.of (rfl)))); (conv => whnf))
            | (refine W.callA (sure_does (DK.set x.2 2 (DK.appF (DK.get x.2 2) (l.getD x.1 []))) 2) rfl rfl rfl rfl hΓ rfl ?_; (conv => whnf); refine ⟨rfl, rfl, ?_, ?_, ?_, ?_⟩; iterate 3 (focus ((repeat' apply And.intro) <;> first | exact trivial | (intro i _; rw [Nat.zero_add]; exact A.sim.refl _) | with_reducible exact rfl | exact fun _ _ => A.sim.refl _ | exact A.sim.refl _ | exact rfl | exact Nat.le_refl _ | omega | exact fun i _ => shift_sim _ _ i | exact fun _ _ => trivial | exact fun _ h => absurd h (Nat.not_lt_zero _) | exact ⟨rfl, rfl⟩ | exact sim3 (A.sim.of rfl) (A.sim.of rfl) (A.sim.of (apart_app _ _)) | exact sim3 (A.sim.of rfl) (A.sim.of rfl) (A.sim.of (rfl)))); (conv => whnf))
            | (refine W.go TfOK 118 hΓ 1000 rfl ?_; (conv => whnf); refine ⟨?_, ?_⟩)
            | (refine D.go TfOK 118 hΓ 1000 rfl ?_; (conv => whnf); refine ⟨?_, ?_⟩)
            | (refine W.drawn rfl rfl ?_; refine D.run TfOK 118 hΓ 1000 ?_; (conv => whnf); refine ⟨?_, ?_⟩)
          all_goals (repeat' apply And.intro)
          all_goals try (first
            | exact trivial
            | exact rfl
            | exact fun _ _ => A.sim.refl _
            | exact A.sim.refl _
            | exact Nat.le_refl _
            | omega
            | exact fun _ _ => trivial
            | exact fun i _ => shift_sim _ _ i
            | exact fun _ h => absurd h (Nat.not_lt_zero _)
            | exact fun i _ => isInt_byteAt _ i
            | (intro i _; exact isInt_byteAt _ _)
            | exact hst.2.2
            | (intro i _; exact isInt_cat _ _ _ _)
            | (simp only [allP, List.nil_append, List.append_nil, List.cons_append, List.append_eq, and_true, true_and, inr_i64, inr_u8, inr_u64, min_i64, max_i64, min_u64, max_u64, min_u8, max_u8, A.purePL, A.pureP, A.sureP, A.surePL, Int.toNat_natCast, Int.reduceToNat, addI, cHi, cLo, hiN, loN, subO, addO, hasIdx, cond_true, cond_false]; first | done | omega | ((repeat' apply And.intro) <;> first | exact trivial | rfl | omega | decide))
            | (show (x.2.f2.b.length + (l.getD x.1 []).length) * 1 ≤ 17592186044416; omega)
            | (show x.2.f2.b.length * 1 ≤ 17592186044416; omega)
            )
    · skip
      repeat' first
        | assumption
        | exact Bool.noConfusion hb
        | exact absurd hb (by decide)
        | (exfalso; omega)
        | (exfalso; simp at hb; done)
        | (exfalso; have hb2 : ((l.getD x.1 []).length : Int) ≤ 20 := hb; omega)
        | (refine W.retY TfOK rfl rfl ⟨?_, ?_⟩)
        | (refine W.branch rfl (fun hb => ?_) (fun hb => ?_) <;> ((try simp only [decide_eq_true_eq, decide_eq_false_iff_not, Bool.not_eq_true', Bool.not_eq_false', Int.not_lt, Int.not_le, cond_true, cond_false, reduceCtorEq, Int.toNat_natCast, Int.reduceToNat, addI] at hb); (try replace hb := of_decide_eq_true hb); (try replace hb := of_decide_eq_false hb)))
        | (refine D.branch rfl (fun hb => ?_) (fun hb => ?_) <;> ((try simp only [decide_eq_true_eq, decide_eq_false_iff_not, Bool.not_eq_true', Bool.not_eq_false', Int.not_lt, Int.not_le, cond_true, cond_false, reduceCtorEq, Int.toNat_natCast, Int.reduceToNat, addI] at hb); (try replace hb := of_decide_eq_true hb); (try replace hb := of_decide_eq_false hb)))
        | (refine W.go TfOK 118 hΓ 1000 rfl ?_; (conv => whnf); refine ⟨?_, ?_⟩)
        | (refine D.go TfOK 118 hΓ 1000 rfl ?_; (conv => whnf); refine ⟨?_, ?_⟩)
        | (refine W.drawn rfl rfl ?_; refine D.run TfOK 118 hΓ 1000 ?_; (conv => whnf); refine ⟨?_, ?_⟩)
      all_goals (repeat' apply And.intro)
      all_goals try (first
        | exact trivial
        | exact rfl
        | exact fun _ _ => A.sim.refl _
        | exact A.sim.refl _
        | exact Nat.le_refl _
        | omega
        | exact fun _ _ => trivial
        | exact fun i _ => shift_sim _ _ i
        | exact fun _ h => absurd h (Nat.not_lt_zero _)
        | exact fun i _ => isInt_byteAt _ i
        | (simp only [allP, List.nil_append, List.append_nil, List.cons_append, List.append_eq, and_true, true_and, inr_i64, inr_u8, inr_u64, min_i64, max_i64, min_u64, max_u64, min_u8, max_u8, A.purePL, A.pureP, A.sureP, A.surePL, Int.toNat_natCast, Int.reduceToNat, addI, cHi, cLo, hiN, loN, subO, addO, hasIdx, cond_true, cond_false]; first | done | omega | ((repeat' apply And.intro) <;> first | exact trivial | rfl | omega | decide))
        )
  · have cc := crash_does x.2 0 (-1) (by decide) hok
    rw [crash_zero] at cc
    have hok3 : DK.Ok (⟨⟨x.2.f0.s, []⟩, ⟨x.2.f1.s, []⟩, ⟨x.2.f2.s, []⟩, x.2.room, -1⟩ : DK.D) := by rw [← crash_zero]; exact ok_crash hok 0 (-1)
    repeat' first
      | assumption
      | exact Bool.noConfusion hb
      | exact absurd hb (by decide)
      | (exfalso; omega)
      | (refine W.enter ?_)
      | (refine W.again ?_)
      | (exfalso; simp at hb; done)
      | exact absurd (cut_str _) hb
      | (refine W.retY TfOK rfl rfl ⟨?_, ?_⟩)
      | (refine W.branch rfl (fun hb => ?_) (fun hb => ?_) <;> ((try simp only [decide_eq_true_eq, decide_eq_false_iff_not, Bool.not_eq_true', Bool.not_eq_false', Int.not_lt, Int.not_le, cond_true, cond_false, reduceCtorEq, Int.toNat_natCast, Int.reduceToNat, addI] at hb); (try replace hb := of_decide_eq_true hb); (try replace hb := of_decide_eq_false hb)))
      | (refine D.branch rfl (fun hb => ?_) (fun hb => ?_) <;> ((try simp only [decide_eq_true_eq, decide_eq_false_iff_not, Bool.not_eq_true', Bool.not_eq_false', Int.not_lt, Int.not_le, cond_true, cond_false, reduceCtorEq, Int.toNat_natCast, Int.reduceToNat, addI] at hb); (try replace hb := of_decide_eq_true hb); (try replace hb := of_decide_eq_false hb)))
      | ((first | (refine D.callA (cc) rfl rfl rfl rfl hΓ rfl ?_; (conv => whnf); refine ⟨rfl, rfl, rfl, ?_, ?_, ?_, ?_⟩) | (refine W.callA (cc) rfl rfl rfl rfl hΓ rfl ?_; (conv => whnf); refine ⟨rfl, rfl, ?_, ?_, ?_, ?_⟩)); iterate 3 (focus ((repeat' apply And.intro) <;> first | exact trivial | (intro i _; rw [Nat.zero_add]; exact A.sim.refl _) | with_reducible exact rfl | exact fun _ _ => A.sim.refl _ | exact A.sim.refl _ | exact rfl | exact Nat.le_refl _ | omega | exact fun i _ => shift_sim _ _ i | exact fun _ _ => trivial | exact fun _ h => absurd h (Nat.not_lt_zero _) | exact ⟨rfl, rfl⟩)); (conv => whnf))
      | (refine D.callAR (read_does (⟨⟨x.2.f0.s, []⟩, ⟨x.2.f1.s, []⟩, ⟨x.2.f2.s, []⟩, x.2.room, -1⟩ : DK.D) 0 hok3) rfl rfl rfl rfl hΓ rfl ?_; (conv => whnf); refine ⟨rfl, rfl, rfl, rfl, ?_, ?_, ?_, ?_, ?_⟩; iterate 4 (focus ((repeat' apply And.intro) <;> first | exact trivial | (intro i _; rw [Nat.zero_add]; exact A.sim.refl _) | with_reducible exact rfl | exact fun _ _ => A.sim.refl _ | exact A.sim.refl _ | exact rfl | exact Nat.le_refl _ | omega | exact fun i _ => shift_sim _ _ i | exact fun _ _ => trivial | exact fun _ h => absurd h (Nat.not_lt_zero _) | exact ⟨rfl, rfl⟩)); (conv => whnf))
      | (refine W.callA (read_does (⟨⟨x.2.f0.s, []⟩, ⟨x.2.f1.s, []⟩, ⟨x.2.f2.s, []⟩, x.2.room, -1⟩ : DK.D) 0 hok3) rfl rfl rfl rfl hΓ rfl ?_; (conv => whnf); refine ⟨rfl, rfl, ?_, ?_, ?_, ?_⟩; iterate 3 (focus ((repeat' apply And.intro) <;> first | exact trivial | (intro i _; rw [Nat.zero_add]; exact A.sim.refl _) | with_reducible exact rfl | exact fun _ _ => A.sim.refl _ | exact A.sim.refl _ | exact rfl | exact Nat.le_refl _ | omega | exact fun i _ => shift_sim _ _ i | exact fun _ _ => trivial | exact fun _ h => absurd h (Nat.not_lt_zero _) | exact ⟨rfl, rfl⟩)); (conv => whnf))
      | (refine D.callAR (read_does (⟨⟨x.2.f0.s, []⟩, ⟨x.2.f1.s, []⟩, ⟨x.2.f2.s, []⟩, x.2.room, -1⟩ : DK.D) 1 hok3) rfl rfl rfl rfl hΓ rfl ?_; (conv => whnf); refine ⟨rfl, rfl, rfl, rfl, ?_, ?_, ?_, ?_, ?_⟩; iterate 4 (focus ((repeat' apply And.intro) <;> first | exact trivial | (intro i _; rw [Nat.zero_add]; exact A.sim.refl _) | with_reducible exact rfl | exact fun _ _ => A.sim.refl _ | exact A.sim.refl _ | exact rfl | exact Nat.le_refl _ | omega | exact fun i _ => shift_sim _ _ i | exact fun _ _ => trivial | exact fun _ h => absurd h (Nat.not_lt_zero _) | exact ⟨rfl, rfl⟩)); (conv => whnf))
      | (refine W.callA (read_does (⟨⟨x.2.f0.s, []⟩, ⟨x.2.f1.s, []⟩, ⟨x.2.f2.s, []⟩, x.2.room, -1⟩ : DK.D) 1 hok3) rfl rfl rfl rfl hΓ rfl ?_; (conv => whnf); refine ⟨rfl, rfl, ?_, ?_, ?_, ?_⟩; iterate 3 (focus ((repeat' apply And.intro) <;> first | exact trivial | (intro i _; rw [Nat.zero_add]; exact A.sim.refl _) | with_reducible exact rfl | exact fun _ _ => A.sim.refl _ | exact A.sim.refl _ | exact rfl | exact Nat.le_refl _ | omega | exact fun i _ => shift_sim _ _ i | exact fun _ _ => trivial | exact fun _ h => absurd h (Nat.not_lt_zero _) | exact ⟨rfl, rfl⟩)); (conv => whnf))
      | (refine D.callAR (read_does (⟨⟨x.2.f0.s, []⟩, ⟨x.2.f1.s, []⟩, ⟨x.2.f2.s, []⟩, x.2.room, -1⟩ : DK.D) 2 hok3) rfl rfl rfl rfl hΓ rfl ?_; (conv => whnf); refine ⟨rfl, rfl, rfl, rfl, ?_, ?_, ?_, ?_, ?_⟩; iterate 4 (focus ((repeat' apply And.intro) <;> first | exact trivial | (intro i _; rw [Nat.zero_add]; exact A.sim.refl _) | with_reducible exact rfl | exact fun _ _ => A.sim.refl _ | exact A.sim.refl _ | exact rfl | exact Nat.le_refl _ | omega | exact fun i _ => shift_sim _ _ i | exact fun _ _ => trivial | exact fun _ h => absurd h (Nat.not_lt_zero _) | exact ⟨rfl, rfl⟩)); (conv => whnf))
      | (refine W.callA (read_does (⟨⟨x.2.f0.s, []⟩, ⟨x.2.f1.s, []⟩, ⟨x.2.f2.s, []⟩, x.2.room, -1⟩ : DK.D) 2 hok3) rfl rfl rfl rfl hΓ rfl ?_; (conv => whnf); refine ⟨rfl, rfl, ?_, ?_, ?_, ?_⟩; iterate 3 (focus ((repeat' apply And.intro) <;> first | exact trivial | (intro i _; rw [Nat.zero_add]; exact A.sim.refl _) | with_reducible exact rfl | exact fun _ _ => A.sim.refl _ | exact A.sim.refl _ | exact rfl | exact Nat.le_refl _ | omega | exact fun i _ => shift_sim _ _ i | exact fun _ _ => trivial | exact fun _ h => absurd h (Nat.not_lt_zero _) | exact ⟨rfl, rfl⟩)); (conv => whnf))
      | (refine W.go TfOK 118 hΓ 1000 rfl ?_; (conv => whnf); refine ⟨?_, ?_⟩)
      | (refine D.go TfOK 118 hΓ 1000 rfl ?_; (conv => whnf); refine ⟨?_, ?_⟩)
      | (refine W.drawn rfl rfl ?_; refine D.run TfOK 118 hΓ 1000 ?_; (conv => whnf); refine ⟨?_, ?_⟩)
    all_goals (repeat' apply And.intro)
    all_goals try (first
      | exact trivial
      | exact rfl
      | exact fun _ _ => A.sim.refl _
      | exact A.sim.refl _
      | exact Nat.le_refl _
      | omega
      | exact fun _ _ => trivial
      | exact fun i _ => shift_sim _ _ i
      | exact fun _ h => absurd h (Nat.not_lt_zero _)
      | exact fun i _ => isInt_byteAt _ i
      | (intro i _; exact isInt_byteAt _ _)
      | exact Int.ofNat_le.2 (DK.sure_le _)
      | (simp only [allP, List.nil_append, List.append_nil, List.cons_append, List.append_eq, and_true, true_and, inr_i64, inr_u8, inr_u64, min_i64, max_i64, min_u64, max_u64, min_u8, max_u8, A.purePL, A.pureP, A.sureP, A.surePL, Int.toNat_natCast, Int.reduceToNat, addI, cHi, cLo, hiN, loN, subO, addO, hasIdx, cond_true, cond_false]; first | done | omega | ((repeat' apply And.intro) <;> first | exact trivial | rfl | omega | decide))
      )

theorem diskApart_law (x0 x1 : A) (s0 : Shaped (.slice (.slice (.int .u8))) x0) (s1 : Shaped (.slice (.int .u8)) x1) : Does Try.prog 7 [x0, x1] [] [] Yes := by
  obtain ⟨a0, e0, h0⟩ := (Rep.slice Rep.bytes) x0 s0
  obtain ⟨a1, e1, h1⟩ := Rep.bytes x1 s1
  exact Does.args (ys := [(sl (Sh.size (.slice (.int .u8))) bytesA) a0, bytesA a1]) ⟨e0, e1, trivial⟩ ⟨s0.pure, s1.pure, trivial⟩ (apart_does a0 a1)
end Go.Proofs.Ytiapjcncfoefeaa
