/- Walk: a statement of layer 15. -/
import Derived.Test.YtcolghonbncpnaaSc15f
import Derived.Test.YtcolghonbncpnaaPlB
import Derived.Test.YtcolghonbncpnaaVxI
set_option linter.unusedSimpArgs false
set_option linter.unusedVariables false
namespace Go.Proofs.Ytcolghonbncpnaa
open VX
set_option maxRecDepth 100000
set_option maxHeartbeats 4000000
theorem qSc15r1 {P : Prop} (h : P := by (focus ((repeat' apply And.intro) <;> first | exact qlf0 | exact penA_flat _ _ | exact recA_flat _ _ | exact ⟨rfl, rfl, rfl⟩ | exact ⟨rfl, rfl, rfl, rfl, ⟨rfl, rfl⟩⟩ | ((repeat' apply And.intro) <;> rfl)))) : P := h
theorem qSc15r2 {P : Prop} (h : P := by (focus ((repeat' apply And.intro) <;> first | exact qlf0 | exact hLl | exact hLl.symm | exact Nat.le_of_eq hLl | (intro j hj; refine hLs _ ?_ _ j hj; exact rfl) | (intro j hj; rw [Nat.zero_add]; refine hLs _ ?_ _ j hj; exact rfl)))) : P := h
theorem qSc15r3 {P : Prop} (h : P := by (focus ((repeat' apply And.intro) <;> first | exact qlf0 | exact penA_flat _ _ | exact recA_flat _ _ | exact ⟨rfl, rfl, rfl⟩ | exact ⟨rfl, rfl, rfl, rfl, ⟨rfl, rfl⟩⟩ | ((repeat' apply And.intro) <;> rfl) | exact hl2 | exact hl2.symm | exact Nat.le_of_eq hl2 | exact hq _))) : P := h
theorem qSc15r4 {P : Prop} (h : P := by (focus ((repeat' apply And.intro) <;> first | exact qlf0 | exact sim2a (A.sim.refl _) (A.sim.refl _)))) : P := h
def Trw11 : Tab := { l := tabL, stop := [11] }
theorem Trw11OK : TabOK Try.prog Trw11.l := tabOK
def Trw6 : Tab := { l := tabL, stop := [6] }
theorem Trw6OK : TabOK Try.prog Trw6.l := tabOK
def Trwf : Tab := { l := tabL, frz := [46] }
theorem TrwfOK : TabOK Try.prog Trwf.l := tabOK
abbrev SHU : Sh := .strct (.cons (.str) (.cons (.int .i64) (.cons (.int .u64) (.cons (.int .i64) (.cons (.strct (.cons (.int .u64) (.cons (.int .u64) .nil))) .nil)))))
abbrev SHR : Sh := .strct (.cons (.int .i64) (.cons (.int .i64) (.cons (.int .i64) (.cons (.int .i64) (.cons (.strct (.cons (.str) (.cons (.int .i64) (.cons (.int .u64) (.cons (.int .i64) (.cons (.strct (.cons (.int .u64) (.cons (.int .u64) .nil))) .nil)))))) (.cons (.int .i64) (.cons (.int .i64) .nil)))))))
theorem repUpd : Rep SHU updA UpdOK := fun x h => by
  obtain ⟨a, e, h⟩ := (Rep.strct (RepL.cons Rep.str (RepL.cons (Rep.int .i64) (RepL.cons (Rep.int .u64) (RepL.cons (Rep.int .i64) (RepL.cons (Rep.strct (RepL.cons (Rep.int .u64) (RepL.cons (Rep.int .u64) RepL.nil))) RepL.nil)))))) x h
  exact ⟨⟨a.1, a.2.1, a.2.2.1, a.2.2.2.1, a.2.2.2.2.1.1, a.2.2.2.2.1.2.1⟩, e, ⟨h.2.1, h.2.2.1, h.2.2.2.1, h.2.2.2.2.1.1, h.2.2.2.2.1.2.1⟩⟩
theorem repRec : Rep SHR recA RecOK := fun x h => by
  obtain ⟨a, e, h⟩ := Rep.strct (RepL.cons (Rep.int .i64) (RepL.cons (Rep.int .i64) (RepL.cons (Rep.int .i64) (RepL.cons (Rep.int .i64) (RepL.cons repUpd (RepL.cons (Rep.int .i64) (RepL.cons (Rep.int .i64) RepL.nil))))))) x h
  exact ⟨⟨a.1, a.2.1, a.2.2.1, a.2.2.2.1, a.2.2.2.2.1, a.2.2.2.2.2.1, a.2.2.2.2.2.2.1⟩, e, ⟨h.1, h.2.1, h.2.2.1, h.2.2.2.1, h.2.2.2.2.1, h.2.2.2.2.2.1, h.2.2.2.2.2.2.1⟩⟩
theorem raw15_does (raw : List Rec) (k count : UInt8) : Does Try.prog 5 [sl 12 recA raw, VX.byte k, VX.byte count] [] [] Yes := by
  have ck := known_does
  by_cases h20 : 20 < raw.length
  · refine Does.intro (fn := Try.f5) Try.func5 rfl rfl fun Γ hΓ => ?_
    refine W.run TOK 79 hΓ 1000 ?_
    conv => whnf
    refine ⟨?_, ?_⟩
    repeat' first
      | assumption
      | exact Bool.noConfusion hb
      | exact absurd hb (by decide)
      | (exfalso; omega)
      | (exfalso; simp at hb; done)
      | (refine W.retY TOK rfl rfl ⟨?_, ?_⟩)
      | (refine W.branch rfl (fun hb => ?_) (fun hb => ?_) <;> ((try simp only [qhb, addI, reduceCtorEq, Int.reduceToNat] at hb); (try replace hb := of_decide_eq_true hb); (try replace hb := of_decide_eq_false hb)))
      | (refine W.callA (ck) rfl rfl rfl rfl hΓ rfl ?_; (conv => whnf); refine ⟨rfl, rfl, ?_, ?_, ?_, ?_⟩; iterate 3 exact qlf1; (conv => whnf))
      | (refine W.go TOK 79 hΓ 1000 rfl ?_; (conv => whnf); refine ⟨?_, ?_⟩)
    all_goals (repeat' apply And.intro)
    all_goals try exact qcs0
  have hk8 := k.toNat_lt
  have hc8 := count.toNat_lt
  have wk : IntKind.i64.wrap (k.toNat : Int) = (k.toNat : Int) := wrap_i64_in (by omega) (by omega)
  have wc : IntKind.i64.wrap ((count.toNat : Int) % 12) = (count.toNat : Int) % 12 := wrap_i64_in (by omega) (by omega)
  obtain ⟨L, hL⟩ : ∃ L, L = (⟨1, 0, (k.toNat : Int), (count.toNat : Int) % 12, ⟨[], 0, 0, 0, 0, 0⟩, 0, 0⟩ : Rec) :: raw := ⟨_, rfl⟩
  have hLl : L.length = 1 + raw.length := by rw [hL, List.length_cons]; omega
  have hLs : ∀ g : Nat → A, g 0 = recA ⟨1, 0, IntKind.i64.wrap (k.toNat : Int), IntKind.i64.wrap ((count.toNat : Int) % 12), ⟨[], 0, 0, 0, 0, 0⟩, 0, 0⟩ → ∀ m, ∀ j, j < m → (catF 1 g (lsA recA raw) j).sim (lsA recA L j) := fun g hg m j _ => by
    rw [hL]
    rw [wk, wc] at hg
    cases j with
    | zero => exact A.sim.of hg
    | succ j => exact A.sim.refl _
  refine Does.intro (fn := Try.f5) Try.func5 rfl rfl fun Γ hΓ => ?_
  refine W.run Trw6OK 79 hΓ 1000 ?_
  conv => whnf
  refine ⟨?_, ?_⟩
  repeat' first
    | assumption
    | exact Bool.noConfusion hb
    | exact absurd hb (by decide)
    | (exfalso; omega)
    | (exfalso; simp at hb; done)
    | (refine W.retY Trw6OK rfl rfl ⟨?_, ?_⟩)
    | (refine W.branch rfl (fun hb => ?_) (fun hb => ?_) <;> ((try simp only [qhb, addI, reduceCtorEq, Int.reduceToNat] at hb); (try replace hb := of_decide_eq_true hb); (try replace hb := of_decide_eq_false hb)))
    | (refine W.callA (ck) rfl rfl rfl rfl hΓ rfl ?_; (conv => whnf); refine ⟨rfl, rfl, ?_, ?_, ?_, ?_⟩; iterate 3 exact qSc15r1; (conv => whnf))
    | (refine W.go Trw6OK 79 hΓ 1000 rfl ?_; (conv => whnf); refine ⟨?_, ?_⟩)
  all_goals (repeat' apply And.intro)
  all_goals try exact qcs0
  refine W.seeA ([(7, .own 12 700 0 L.length)]) ([(700, some (.arr 12 L.length (lsA recA L)))]) [17, 18, 19, 20, 21, 22, 23, 24, 25, 26, 27, 28, 29, 30] ?_
  (conv => whnf); refine ⟨?_, ?_⟩; focus ((conv => whnf); refine ⟨rfl, rfl, rfl, rfl, rfl, rfl, ?_, ?_⟩; iterate 2 exact qSc15r2)
  clear hL hLs
  have hL21 : L.length ≤ 21 := by omega
  have hL1 : 1 ≤ L.length := by omega
  repeat' first
    | assumption
    | exact Bool.noConfusion hb
    | exact absurd hb (by decide)
    | (exfalso; omega)
    | (refine W.branch rfl (fun hb => ?_) (fun hb => ?_) <;> ((try simp only [qhb, addI, reduceCtorEq, Int.reduceToNat] at hb); (try replace hb := of_decide_eq_true hb); (try replace hb := of_decide_eq_false hb)))
    | (refine W.go TOK 79 hΓ 1000 rfl ?_; (conv => whnf); refine ⟨?_, ?_⟩)
  all_goals (repeat' apply And.intro)
  all_goals try exact qcs0
  refine W.loopA (Nat × List Rec) (fun x => 1 ≤ x.1 ∧ x.1 ≤ L.length ∧ x.2.length = L.length) (fun x => L.length - x.1) (fun x => [(7, .own 12 700 0 x.2.length), (8, .int .i64 (x.1 : Nat))]) (fun x => [(700, some (.arr 12 x.2.length (lsA recA x.2)))]) [] ((1, L)) (⟨Nat.le_refl _, hL1, rfl⟩) ?_
  (conv => whnf); refine ⟨?_, ?_⟩; focus ((conv => whnf); refine ⟨rfl, rfl, rfl, rfl, rfl, rfl, ?_, ?_⟩; iterate 2 exact qlf1)
  rintro ⟨i, M⟩ ⟨hi1, hi, hM⟩ ih
  simp only at hi1 hi hM
  by_cases hil : i < M.length
  · by_cases h3 : 0 < (i : Int) % 3
    · obtain ⟨M2, hM2⟩ : ∃ o, o = M.set i { HP.at_ M i with kind := 2 } := ⟨_, rfl⟩
      have hl2 : M2.length = M.length := by rw [hM2, List.length_set]
      have hq : ∀ m, ∀ j, j < m → (setF (lsA recA M) i (recA { HP.at_ M i with kind := 2 }) j).sim (lsA recA M2 j) := fun m => by rw [hM2]; exact ls_set _ (by omega)
      have ih2 := ih (i + 1, M2) ⟨by simp only; omega, by simp only; omega, by simp only; omega⟩ (by simp only; omega)
      clear ih hM2
      repeat' first
        | assumption
        | exact Bool.noConfusion hb
        | exact absurd hb (by decide)
        | (exfalso; omega)
        | (exfalso; simp at hb; done)
        | (refine W.toA (ih2) ?_; rotate_left 0; (conv => whnf); refine ⟨rfl, rfl, rfl, rfl, rfl, rfl, ?_, ?_⟩; iterate 2 exact qSc15r3)
        | (refine W.branch rfl (fun hb => ?_) (fun hb => ?_) <;> ((try simp only [qhb, addI, reduceCtorEq, Int.reduceToNat] at hb); (try replace hb := of_decide_eq_true hb); (try replace hb := of_decide_eq_false hb)))
        | (refine W.go TOK 79 hΓ 1000 rfl ?_; (conv => whnf); refine ⟨?_, ?_⟩)
      all_goals (repeat' apply And.intro)
      all_goals try first | exact qcl0 | exact hl2.symm | exact qsm0
    · have ih2 := ih (i + 1, M) ⟨by simp only; omega, by simp only; omega, by simp only; omega⟩ (by simp only; omega)
      clear ih
      repeat' first
        | assumption
        | exact Bool.noConfusion hb
        | exact absurd hb (by decide)
        | (exfalso; omega)
        | (exfalso; simp at hb; done)
        | (refine W.toA (ih2) ?_; rotate_left 0; (conv => whnf); refine ⟨rfl, rfl, rfl, rfl, rfl, rfl, ?_, ?_⟩; iterate 2 exact qSc15r1)
        | (refine W.branch rfl (fun hb => ?_) (fun hb => ?_) <;> ((try simp only [qhb, addI, reduceCtorEq, Int.reduceToNat] at hb); (try replace hb := of_decide_eq_true hb); (try replace hb := of_decide_eq_false hb)))
        | (refine W.go TOK 79 hΓ 1000 rfl ?_; (conv => whnf); refine ⟨?_, ?_⟩)
      all_goals (repeat' apply And.intro)
      all_goals try exact qcs0
  · clear ih
    repeat' first
      | assumption
      | exact Bool.noConfusion hb
      | exact absurd hb (by decide)
      | (exfalso; omega)
      | (exfalso; simp at hb; done)
      | (refine W.branch rfl (fun hb => ?_) (fun hb => ?_) <;> ((try simp only [qhb, addI, reduceCtorEq, Int.reduceToNat] at hb); (try replace hb := of_decide_eq_true hb); (try replace hb := of_decide_eq_false hb)))
      | (refine W.go Trw11OK 79 hΓ 1000 rfl ?_; (conv => whnf); refine ⟨?_, ?_⟩)
    all_goals (repeat' apply And.intro)
    all_goals try exact qcs0
    refine W.cutA [0, 7] [700] ?_
    (conv => whnf); refine ⟨?_, ?_⟩; focus ((conv => whnf); refine ⟨rfl, rfl, rfl, rfl, rfl, rfl, ?_, ?_⟩; iterate 2 exact qlf1)
    refine W.run TrwfOK 79 hΓ 1000 ?_
    conv => whnf
    refine ⟨?_, ?_⟩
    repeat' first
      | assumption
      | exact Bool.noConfusion hb
      | exact absurd hb (by decide)
      | (exfalso; omega)
      | (refine W.branch rfl (fun hb => ?_) (fun hb => ?_) <;> ((try simp only [qhb, addI, reduceCtorEq, Int.reduceToNat] at hb); (try replace hb := of_decide_eq_true hb); (try replace hb := of_decide_eq_false hb)))
      | (refine W.go TrwfOK 79 hΓ 1000 rfl ?_; (conv => whnf); refine ⟨?_, ?_⟩)
    all_goals (repeat' apply And.intro)
    all_goals try exact qcs0
    refine W.loopA (Nat) (fun c => c ≤ 2) (fun c => 2 - c) (fun c => [(46, sl 1 (fun L : List Rec => A.ro 12 L.length (lsA recA L)) [raw, M]), (48, .int .i64 (c : Nat))]) (fun _ => []) [] (0) (by decide) ?_
    (conv => whnf); refine ⟨?_, ?_⟩; focus ((conv => whnf); refine ⟨rfl, rfl, rfl, rfl, rfl, rfl, ?_, ?_⟩; iterate 2 exact qSc15r4)
    rintro c hc ihc
    have hZS : ∀ z ∈ [raw, M], z.length ≤ 21 := fun z hz => by
      simp only [List.mem_cons, List.not_mem_nil, or_false] at hz
      rcases hz with rfl | rfl <;> omega
    have hZl : ([raw, M] : List (List Rec)).length = 2 := rfl
    generalize ([raw, M] : List (List Rec)) = ZS at hZS hZl ihc ⊢
    by_cases hlc : c < 2
    · have hZ : (ZS.getD c default).length ≤ 21 := hZS _ (HP.at_mem (by omega))
      have r1 := whole_does (ZS.getD c default) (by omega)
      have r2 := rwhole_does (ZS.getD c default) (by omega)
      have hpl := whole_len (ZS.getD c default)
      generalize wholeS (ZS.getD c default) = V at r1 r2 hpl
      obtain ⟨g, P, ok⟩ := V
      simp only at r1 r2 hpl
      have r3 := hpen_does P (by omega)
      have ih2 := ihc (c + 1) (by omega) (by omega)
      clear ihc
      repeat' first
        | assumption
        | exact Bool.noConfusion hb
        | exact absurd hb (by decide)
        | (exfalso; omega)
        | exact absurd rfl hb
        | (exfalso; simp at hb; done)
        | (refine W.toA (ih2) ?_; rotate_left 0; (conv => whnf); refine ⟨rfl, rfl, rfl, rfl, rfl, rfl, ?_, ?_⟩; iterate 2 exact qSc15r1)
        | (refine W.retY TOK rfl rfl ⟨?_, ?_⟩)
        | (refine W.branch rfl (fun hb => ?_) (fun hb => ?_) <;> ((try simp only [qhb, addI, reduceCtorEq, Int.reduceToNat] at hb); (try replace hb := of_decide_eq_true hb); (try replace hb := of_decide_eq_false hb)))
        | (refine W.callA (r1) rfl rfl rfl rfl hΓ rfl ?_; (conv => whnf); refine ⟨rfl, rfl, ?_, ?_, ?_, ?_⟩; iterate 3 exact qSc15r1; (conv => whnf))
        | (refine W.callA (r2) rfl rfl rfl rfl hΓ rfl ?_; (conv => whnf); refine ⟨rfl, rfl, ?_, ?_, ?_, ?_⟩; iterate 3 exact qSc15r1; (conv => whnf))
        | (refine W.callA (r3) rfl rfl rfl rfl hΓ rfl ?_; (conv => whnf); refine ⟨rfl, rfl, ?_, ?_, ?_, ?_⟩; iterate 3 exact qSc15r1; (conv => whnf))
        | (refine W.go TOK 79 hΓ 1000 rfl ?_; (conv => whnf); refine ⟨?_, ?_⟩)
      all_goals (repeat' apply And.intro)
      all_goals try exact qcs0
    · clear ihc
      repeat' first
        | assumption
        | exact Bool.noConfusion hb
        | exact absurd hb (by decide)
        | (exfalso; omega)
        | (exfalso; simp at hb; done)
        | (refine W.retY TOK rfl rfl ⟨?_, ?_⟩)
        | (refine W.branch rfl (fun hb => ?_) (fun hb => ?_) <;> ((try simp only [qhb, addI, reduceCtorEq, Int.reduceToNat] at hb); (try replace hb := of_decide_eq_true hb); (try replace hb := of_decide_eq_false hb)))
        | (refine W.go TOK 79 hΓ 1000 rfl ?_; (conv => whnf); refine ⟨?_, ?_⟩)
      all_goals (repeat' apply And.intro)
      all_goals try exact qcs0

theorem scanRaw_law (x0 x1 x2 : A) (s0 : Shaped (.slice SHR) x0) (s1 : Shaped (.int .u8) x1) (s2 : Shaped (.int .u8) x2) : Does Try.prog 5 [x0, x1, x2] [] [] Yes := by
  obtain ⟨a0, e0, h0⟩ := (Rep.slice repRec) x0 s0
  obtain ⟨a1, e1, h1⟩ := Rep.byte x1 s1
  obtain ⟨a2, e2, h2⟩ := Rep.byte x2 s2
  exact Does.args (ys := [(sl (Sh.size SHR) recA) a0, VX.byte a1, VX.byte a2]) ⟨e0, e1, e2, trivial⟩ ⟨s0.pure, s1.pure, s2.pure, trivial⟩ (raw15_does a0 a1 a2)

end Go.Proofs.Ytcolghonbncpnaa
