/- Walks: signatures of the reference; requests of few numbers. -/
import Derived.Test.YtcolghonbncpnaaSc15k
import Derived.Test.YtcolghonbncpnaaSc15V
import Derived.Test.YtcolghonbncpnaaPlB
import Derived.Test.YtcolghonbncpnaaVxI
set_option linter.unusedSimpArgs false
set_option linter.unusedVariables false
namespace Go.Proofs.Ytcolghonbncpnaa
open VX
set_option maxRecDepth 100000
set_option maxHeartbeats 4000000
theorem qSc15n1 {P : Prop} (h : P := by (focus ((repeat' apply And.intro) <;> first | exact qlf0 | exact (show 0 + 8 ≤ 32 by decide) | exact hl.symm | exact hts | exact hts2 | exact ⟨hl.symm, hts⟩ | exact ⟨hl.symm, hts2⟩))) : P := h
theorem qSc15n2 {P : Prop} (h : P := by (focus ((repeat' apply And.intro) <;> first | exact qlf0 | exact sim3a (sim_roB (numS_length _).symm (fun _ _ => A.sim.refl _)) (sim_roB (numS_length _).symm (fun _ _ => A.sim.refl _)) (A.sim.refl _)))) : P := h
theorem qSc15n3 {P : Prop} (h : P := by (focus ((repeat' apply And.intro) <;> first | exact qlf0 | exact ⟨rfl, rfl, rfl⟩ | exact ⟨rfl, rfl, rfl, rfl, ⟨rfl, rfl⟩⟩ | ((repeat' apply And.intro) <;> rfl) | exact sim2a (sim_roB (numS_length _).symm (fun _ _ => A.sim.refl _)) (A.sim.refl _)))) : P := h
theorem qSc15n4 {P : Prop} (h : P := by (focus ((repeat' apply And.intro) <;> first | exact qlf0 | exact ⟨rfl, rfl, rfl⟩ | exact ⟨rfl, rfl, rfl, rfl, ⟨rfl, rfl⟩⟩ | ((repeat' apply And.intro) <;> rfl)))) : P := h
theorem rnumber_does (T : List UInt8) : Does Try.prog 72 [hashA (sumS T)] [] [] (Is (.int .u64 (numH (sumS T))) []) := by
  have hl := sum8_len T
  unfold numH
  have cw := rword_does ((sumS T).take 8) hl
  have hts : ∀ i, i < 8 → (byteAt (sumS T) (0 + i)).sim (byteAt ((sumS T).take 8) i) := fun i hi => by
    rw [Nat.zero_add]; exact take_sim _ _ i hi
  have hts2 : ∀ i, i < 8 → (byteAt (sumS T) i).sim (byteAt ((sumS T).take 8) i) := take_sim _ _
  refine Does.intro (fn := Try.f72) Try.func72 rfl rfl fun Γ hΓ => ?_
  refine W.run TOK 6 hΓ 1000 ?_
  conv => whnf
  refine ⟨?_, ?_⟩
  repeat' first
    | assumption
    | exact Bool.noConfusion hb
    | exact absurd hb (by decide)
    | (exfalso; omega)
    | (refine W.retA TOK rfl ?_; (conv => whnf); refine ⟨rfl, rfl, rfl, rfl, rfl, rfl, ?_, ?_, ?_⟩)
    | (refine W.branch rfl (fun hb => ?_) (fun hb => ?_) <;> ((try simp only [qhb, addI, reduceCtorEq, Int.reduceToNat] at hb); (try replace hb := of_decide_eq_true hb); (try replace hb := of_decide_eq_false hb)))
    | (refine W.callA (cw) rfl rfl rfl rfl hΓ rfl ?_; (conv => whnf); refine ⟨rfl, rfl, ?_, ?_, ?_, ?_⟩; iterate 3 exact qSc15n1; (conv => whnf))
    | (refine W.go TOK 6 hΓ 1000 rfl ?_; (conv => whnf); refine ⟨?_, ?_⟩)
  all_goals (repeat' apply And.intro)
  all_goals try exact qcs0

theorem rpublic_does (s : Int) (hs : inr .u64 s) : Does Try.prog 51 [.int .u64 s] [] [] (Is (.int .u64 (pubS s)) []) := by
  unfold pubS
  have hs1 := inr_u64.1 hs
  have c := rpow_does 7 (s % 2305843009213693950) 2305843009213693951 (inr_u64.2 ⟨by decide, by decide⟩) (inr_u64.2 ⟨by omega, by omega⟩)
  refine Does.intro (fn := Try.f51) Try.func51 rfl rfl fun Γ hΓ => ?_
  refine W.run TOK 6 hΓ 1000 ?_
  conv => whnf
  refine ⟨?_, ?_⟩
  repeat' first
    | assumption
    | exact Bool.noConfusion hb
    | exact absurd hb (by decide)
    | (exfalso; omega)
    | (refine W.retA TOK rfl ?_; (conv => whnf); refine ⟨rfl, rfl, rfl, rfl, rfl, rfl, ?_, ?_, ?_⟩)
    | (refine W.branch rfl (fun hb => ?_) (fun hb => ?_) <;> ((try simp only [qhb, addI, reduceCtorEq, Int.reduceToNat] at hb); (try replace hb := of_decide_eq_true hb); (try replace hb := of_decide_eq_false hb)))
    | (refine W.callA (c) rfl rfl rfl rfl hΓ rfl ?_; (conv => whnf); refine ⟨rfl, rfl, ?_, ?_, ?_, ?_⟩; iterate 3 exact qlf1; (conv => whnf))
    | (refine W.go TOK 6 hΓ 1000 rfl ?_; (conv => whnf); refine ⟨?_, ?_⟩)
  all_goals (repeat' apply And.intro)
  all_goals try exact qcs0

def Tpt : Tab := { l := tabL, frz := [12] }
theorem TptOK : TabOK Try.prog Tpt.l := tabOK
theorem rpoint_does (r y : Int) (msg : List UInt8) (hr : inr .u64 r) (hy : inr .u64 y) (hm : msg.length ≤ 1000000) : Does Try.prog 73 [.int .u64 r, .int .u64 y, bytesA msg] [] [] (Is (.int .u64 (ptS r y msg)) []) := by
  unfold ptS
  have ct := rtag_does 101 [numS r, numS y, msg] (pt_text r y msg hm)
  have cn := rnumber_does (textS 101 [numS r, numS y, msg])
  refine Does.intro (fn := Try.f73) Try.func73 rfl rfl fun Γ hΓ => ?_
  refine W.run TptOK 15 hΓ 1000 ?_
  conv => whnf
  refine ⟨?_, ?_⟩
  repeat' first
    | assumption
    | exact Bool.noConfusion hb
    | exact absurd hb (by decide)
    | (exfalso; omega)
    | (refine W.retA TptOK rfl ?_; (conv => whnf); refine ⟨rfl, rfl, rfl, rfl, rfl, rfl, ?_, ?_, ?_⟩)
    | (refine W.branch rfl (fun hb => ?_) (fun hb => ?_) <;> ((try simp only [qhb, addI, reduceCtorEq, Int.reduceToNat] at hb); (try replace hb := of_decide_eq_true hb); (try replace hb := of_decide_eq_false hb)))
    | (refine W.callAZ (rnum_does r hr) rfl rfl rfl rfl hΓ rfl ?_; (conv => whnf); refine ⟨rfl, rfl, ?_, ?_, ?_, ?_, ?_⟩; iterate 4 exact qSc15n2; (conv => whnf))
    | (refine W.callAZ (rnum_does y hy) rfl rfl rfl rfl hΓ rfl ?_; (conv => whnf); refine ⟨rfl, rfl, ?_, ?_, ?_, ?_, ?_⟩; iterate 4 exact qSc15n2; (conv => whnf))
    | (refine W.callA (ct) rfl rfl rfl rfl hΓ rfl ?_; (conv => whnf); refine ⟨rfl, rfl, ?_, ?_, ?_, ?_⟩; iterate 3 exact qSc15n2; (conv => whnf))
    | (refine W.callA (cn) rfl rfl rfl rfl hΓ rfl ?_; (conv => whnf); refine ⟨rfl, rfl, ?_, ?_, ?_, ?_⟩; iterate 3 exact qSc15n2; (conv => whnf))
    | (refine W.go TptOK 15 hΓ 1000 rfl ?_; (conv => whnf); refine ⟨?_, ?_⟩)
  all_goals (repeat' apply And.intro)
  all_goals try exact qcs0

def Tsn : Tab := { l := tabL, frz := [14] }
theorem TsnOK : TabOK Try.prog Tsn.l := tabOK
theorem rsign_does (s : Int) (msg : List UInt8) (hs : inr .u64 s) (hm : msg.length ≤ 1000000) : Does Try.prog 52 [.int .u64 s, bytesA msg] [] [] (Is (.agg [.int .u64 (sgnR s msg), .int .u64 (sgnS s msg)]) []) := by
  have hs1 := inr_u64.1 hs
  have hx : inr .u64 (s % 2305843009213693950) := inr_u64.2 ⟨by omega, by omega⟩
  have ct := rtag_does 107 [numS (s % 2305843009213693950), msg] (k_text _ msg hm)
  have cn := rnumber_does (textS 107 [numS (s % 2305843009213693950), msg])
  have ck := rpow_does 7 (sgnK s msg) 2305843009213693951 (inr_u64.2 ⟨by decide, by decide⟩) (u64_of (numH_bd _))
  have cp := rpublic_does (s % 2305843009213693950) hx
  have cq := rpoint_does (sgnR s msg) (pubS (s % 2305843009213693950)) msg (u64_of (powS_bd _ _ _)) (u64_of (powS_bd _ _ _)) hm
  have c1 := rmul_does (s % 2305843009213693950) (ptS (sgnR s msg) (pubS (s % 2305843009213693950)) msg) 2305843009213693950 hx (u64_of (numH_bd _))
  have c2 := radd_does (sgnK s msg) (mulS (s % 2305843009213693950) (ptS (sgnR s msg) (pubS (s % 2305843009213693950)) msg) 2305843009213693950) 2305843009213693950 (u64_of (numH_bd _)) (u64_of (mulS_bd _ _ _))
  rw [show addS _ _ _ = sgnS s msg from rfl] at c2
  rw [show powS _ _ _ = sgnR s msg from rfl] at ck
  rw [show numH (sumS (textS 107 [numS (s % 2305843009213693950), msg])) = sgnK s msg from rfl] at cn
  refine Does.intro (fn := Try.f52) Try.func52 rfl rfl fun Γ hΓ => ?_
  refine W.run TsnOK 31 hΓ 1000 ?_
  conv => whnf
  refine ⟨?_, ?_⟩
  repeat' first
    | assumption
    | exact Bool.noConfusion hb
    | exact absurd hb (by decide)
    | (exfalso; omega)
    | (refine W.retA TsnOK rfl ?_; (conv => whnf); refine ⟨rfl, rfl, rfl, rfl, rfl, rfl, ?_, ?_, ?_⟩)
    | (refine W.branch rfl (fun hb => ?_) (fun hb => ?_) <;> ((try simp only [qhb, addI, reduceCtorEq, Int.reduceToNat] at hb); (try replace hb := of_decide_eq_true hb); (try replace hb := of_decide_eq_false hb)))
    | (refine W.callAZ (rnum_does _ hx) rfl rfl rfl rfl hΓ rfl ?_; (conv => whnf); refine ⟨rfl, rfl, ?_, ?_, ?_, ?_, ?_⟩; iterate 4 exact qSc15n3; (conv => whnf))
    | (refine W.callA (ct) rfl rfl rfl rfl hΓ rfl ?_; (conv => whnf); refine ⟨rfl, rfl, ?_, ?_, ?_, ?_⟩; iterate 3 exact qSc15n3; (conv => whnf))
    | (refine W.callA (cn) rfl rfl rfl rfl hΓ rfl ?_; (conv => whnf); refine ⟨rfl, rfl, ?_, ?_, ?_, ?_⟩; iterate 3 exact qSc15n3; (conv => whnf))
    | (refine W.callA (ck) rfl rfl rfl rfl hΓ rfl ?_; (conv => whnf); refine ⟨rfl, rfl, ?_, ?_, ?_, ?_⟩; iterate 3 exact qSc15n3; (conv => whnf))
    | (refine W.callA (cp) rfl rfl rfl rfl hΓ rfl ?_; (conv => whnf); refine ⟨rfl, rfl, ?_, ?_, ?_, ?_⟩; iterate 3 exact qSc15n3; (conv => whnf))
    | (refine W.callA (cq) rfl rfl rfl rfl hΓ rfl ?_; (conv => whnf); refine ⟨rfl, rfl, ?_, ?_, ?_, ?_⟩; iterate 3 exact qSc15n3; (conv => whnf))
    | (refine W.callA (c1) rfl rfl rfl rfl hΓ rfl ?_; (conv => whnf); refine ⟨rfl, rfl, ?_, ?_, ?_, ?_⟩; iterate 3 exact qSc15n3; (conv => whnf))
    | (refine W.callA (c2) rfl rfl rfl rfl hΓ rfl ?_; (conv => whnf); refine ⟨rfl, rfl, ?_, ?_, ?_, ?_⟩; iterate 3 exact qSc15n3; (conv => whnf))
    | (refine W.go TsnOK 31 hΓ 1000 rfl ?_; (conv => whnf); refine ⟨?_, ?_⟩)
  all_goals (repeat' apply And.intro)
  all_goals try exact qcs0

theorem rmessage_does (u : Upd) (h9 : u.name.length ≤ 1000000) (hv : 0 ≤ u.ver ∧ u.ver ≤ 9223372036854775807) (hk : inr .u64 u.key) : Does Try.prog 53 [entA u.name u.ver u.key] [] [1] (Is (.own 1 1 0 (msgB u).length) [(1, some (.arr 1 (msgB u).length (byteAt (msgB u))))]) := by
  have cf := rfields_does u.name u.ver u.key h9 hv hk
  have hl := fdB_len u.name u.ver u.key
  have hl9 : 1 + (fdB u.name u.ver u.key).length = (msgB u).length := by rw [msgB, List.length_cons]; omega
  have cc : ∀ g : Nat → A, g 0 = .int .u8 85 → ∀ q, ∀ i, i < q → (catF 1 g (byteAt (fdB u.name u.ver u.key)) i).sim (byteAt (msgB u) i) := fun g hg q i _ => A.sim.of (by
    unfold catF
    cases i with
    | zero => exact hg
    | succ i =>
      show byteAt (fdB u.name u.ver u.key) (i + 1 - 1) = byteAt (85 :: fdB u.name u.ver u.key) (i + 1)
      rfl)
  refine Does.intro (fn := Try.f53) Try.func53 rfl rfl fun Γ hΓ => ?_
  refine W.run TOK 7 hΓ 1000 ?_
  conv => whnf
  refine ⟨?_, ?_⟩
  repeat' first
    | assumption
    | exact Bool.noConfusion hb
    | exact absurd hb (by decide)
    | (exfalso; omega)
    | (refine W.retA TOK rfl ?_; (conv => whnf); refine ⟨rfl, rfl, rfl, rfl, rfl, rfl, ?_, ?_, ?_⟩)
    | (refine W.branch rfl (fun hb => ?_) (fun hb => ?_) <;> ((try simp only [qhb, addI, reduceCtorEq, Int.reduceToNat] at hb); (try replace hb := of_decide_eq_true hb); (try replace hb := of_decide_eq_false hb)))
    | (refine W.callA (cf) rfl rfl rfl rfl hΓ rfl ?_; (conv => whnf); refine ⟨rfl, rfl, ?_, ?_, ?_, ?_⟩; iterate 3 exact qSc15n4; (conv => whnf))
    | (refine W.go TOK 7 hΓ 1000 rfl ?_; (conv => whnf); refine ⟨?_, ?_⟩)
  all_goals (repeat' apply And.intro)
  all_goals try first | exact qcl0 | exact hl9 | exact hl9.symm | exact Nat.le_of_eq hl9.symm | exact cc _ rfl _ | exact qsm0

end Go.Proofs.Ytcolghonbncpnaa
