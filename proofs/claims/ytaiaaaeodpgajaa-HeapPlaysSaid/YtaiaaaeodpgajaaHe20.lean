/- Walks: the statements of layer 20. -/
import Derived.Test.YtaiaaaeodpgajaaSr20c
set_option linter.unusedSimpArgs false
set_option linter.unusedVariables false
namespace Go.Proofs.Ytaiaaaeodpgajaa
open VX
set_option maxRecDepth 100000
set_option maxHeartbeats 4000000
abbrev SHD : Sh := .strct (.cons (.int .i64) (.cons (.int .i64) (.cons (.int .i64) (.cons (.str) .nil))))
theorem repDue : Rep SHD dueA fun _ => True := fun x h => by
  obtain ⟨a, e, _⟩ := (Rep.strct (RepL.cons (Rep.int .i64) (RepL.cons (Rep.int .i64) (RepL.cons (Rep.int .i64) (RepL.cons Rep.str RepL.nil))))) x h
  exact ⟨⟨a.1, a.2.1, a.2.2.1, a.2.2.2.1⟩, e, trivial⟩
theorem srt_perm2 {a b : List Due} (h : List.Perm a b) : HP.srt lessS a = HP.srt lessS b := HP.srt_of less_ord (HP.srt_sl less_ord a) ((HP.srt_perm a).trans h)
theorem at_tail (l : List Due) (i : Nat) : HP.at_ l.tail i = HP.at_ l (i + 1) := by
  cases l <;> rfl
theorem at_drop (l : List Due) (i k : Nat) : HP.at_ (l.drop i) k = HP.at_ l (i + k) := by
  simp [HP.at_, List.getD_eq_getElem?_getD]
theorem due_flat (l : List Due) (n : Nat) : (Obj.arr 4 n (lsA dueA l)).flat := fun _ _ => ⟨trivial, trivial, trivial, trivial, trivial⟩
structure Pops (a : List Due) : Prop where
  top : popT a = (HP.at_ (HP.srt lessS a) 0, true)
  rest : HP.srt lessS (popR a) = (HP.srt lessS a).tail
  heap : HP.Heap lessS (popR a) (popR a).length
  len : (popR a).length = a.length - 1
theorem pops {a : List Due} (h : HP.Heap lessS a a.length) (h0 : 0 < a.length) : Pops a := by
  obtain ⟨e1, h2, p⟩ := HP.pop_facts less_ord h h0
  have hl : ((HP.popS lessS a).take (a.length - 1)).length = a.length - 1 := by rw [List.length_take, HP.pop_len]; omega
  have eR : popR a = (HP.popS lessS a).take (a.length - 1) := if_neg (by omega)
  have eT : popT a = (HP.at_ (HP.popS lessS a) (a.length - 1), true) := if_neg (by omega)
  have hs : HP.Sl lessS (HP.at_ a 0 :: HP.srt lessS ((HP.popS lessS a).take (a.length - 1))) := List.pairwise_cons.2 ⟨fun y hy => by
    have hy2 : y ∈ a := p.subset (List.mem_cons_of_mem _ ((HP.srt_perm _).subset hy))
    obtain ⟨k, hk, rfl⟩ := HP.mem_at hy2
    exact HP.heap_min less_ord h k hk, HP.srt_sl less_ord _⟩
  have e := HP.srt_of less_ord hs (((HP.srt_perm _).cons _).trans p)
  refine ⟨?_, ?_, ?_, ?_⟩
  · rw [eT, e1, ← e]; rfl
  · rw [eR, ← e]; rfl
  · rw [eR, hl]; exact h2
  · rw [eR, hl]
theorem push_is {a : List Due} (h : HP.Heap lessS a a.length) (d : Due) : HP.Heap lessS (HP.pushS lessS a d) (HP.pushS lessS a d).length := by
  rw [HP.push_len]
  exact HP.push_heap less_ord h d
theorem srt_le (l : List Due) {i : Nat} (h0 : 0 < i) (hi : i < l.length) : lessS (HP.at_ (HP.srt lessS l) i) (HP.at_ (HP.srt lessS l) (i - 1)) = false := by
  have hs := HP.srt_sl less_ord l
  have hl := HP.srt_len (lt := lessS) l
  have := List.pairwise_iff_getElem.1 hs (i - 1) i (by omega) (by omega) (by omega)
  rw [HP.at_, HP.at_, List.getD_eq_getElem?_getD, List.getD_eq_getElem?_getD, List.getElem?_eq_getElem (by omega), List.getElem?_eq_getElem (by omega)]
  exact this
theorem drop_len (name : List UInt8) (a : List Due) : (dropS name a).length = (a.filter (keepP name)).length := HP.init_len _ _ _
theorem drop_is (name : List UInt8) (a : List Due) : HP.Heap lessS (dropS name a) (dropS name a).length ∧ List.Perm (dropS name a) (a.filter (keepP name)) := by
  rw [drop_len]
  have hh : (a.filter (keepP name)).length / 2 ≤ (a.filter (keepP name)).length := Nat.div_le_self _ _
  exact ⟨HP.init_heap less_ord _ _ _ (Nat.le_refl _) hh fun k hk0 hk hi => by omega, HP.init_perm _ _ _ (Nat.le_refl _) hh⟩

theorem known_does : Does Try.prog 7 [] [] [] (Is (.bool true) []) := by
  have q1 : HP.pushS lessS [] (⟨5, 0, 0, [97]⟩ : Due) = [(⟨5, 0, 0, [97]⟩ : Due)] := by decide
  have q2 : HP.pushS lessS [(⟨5, 0, 0, [97]⟩ : Due)] (⟨3, 0, 0, [98]⟩ : Due) = [(⟨3, 0, 0, [98]⟩ : Due), (⟨5, 0, 0, [97]⟩ : Due)] := by decide
  have q3 : HP.pushS lessS [(⟨3, 0, 0, [98]⟩ : Due), (⟨5, 0, 0, [97]⟩ : Due)] (⟨3, 1, 0, [99]⟩ : Due) = [(⟨3, 1, 0, [99]⟩ : Due), (⟨5, 0, 0, [97]⟩ : Due), (⟨3, 0, 0, [98]⟩ : Due)] := by decide
  have q4 : popT [(⟨3, 1, 0, [99]⟩ : Due), (⟨5, 0, 0, [97]⟩ : Due), (⟨3, 0, 0, [98]⟩ : Due)] = ((⟨3, 1, 0, [99]⟩ : Due), true) := by decide
  have q5 : popR [(⟨3, 1, 0, [99]⟩ : Due), (⟨5, 0, 0, [97]⟩ : Due), (⟨3, 0, 0, [98]⟩ : Due)] = [(⟨3, 0, 0, [98]⟩ : Due), (⟨5, 0, 0, [97]⟩ : Due)] := by decide
  have q6 : dropS [97] [(⟨3, 0, 0, [98]⟩ : Due), (⟨5, 0, 0, [97]⟩ : Due)] = [(⟨3, 0, 0, [98]⟩ : Due)] := by decide
  have q7 : HP.srt lessS [⟨2, 0, 0, []⟩, ⟨1, 0, 0, []⟩] = [⟨1, 0, 0, []⟩, ⟨2, 0, 0, []⟩] := by decide
  have q8 : lessS ⟨0, 0, 1, []⟩ ⟨0, 0, 2, []⟩ = true := by decide
  have c1 := push_does [] (⟨5, 0, 0, [97]⟩ : Due) (by decide)
  have c2 := push_does [(⟨5, 0, 0, [97]⟩ : Due)] (⟨3, 0, 0, [98]⟩ : Due) (by decide)
  have c3 := push_does [(⟨3, 0, 0, [98]⟩ : Due), (⟨5, 0, 0, [97]⟩ : Due)] (⟨3, 1, 0, [99]⟩ : Due) (by decide)
  have c4 := pop_does [(⟨3, 1, 0, [99]⟩ : Due), (⟨5, 0, 0, [97]⟩ : Due), (⟨3, 0, 0, [98]⟩ : Due)] (by decide)
  have c5 := hlen_does [(⟨3, 0, 0, [98]⟩ : Due), (⟨5, 0, 0, [97]⟩ : Due)]
  have c6 := drop_does [(⟨3, 0, 0, [98]⟩ : Due), (⟨5, 0, 0, [97]⟩ : Due)] [97] (by decide)
  have c7 := hlen_does [(⟨3, 0, 0, [98]⟩ : Due)]
  have c8 := sorted_does [⟨2, 0, 0, []⟩, ⟨1, 0, 0, []⟩] (by decide)
  have c9 := less_does ⟨0, 0, 1, []⟩ ⟨0, 0, 2, []⟩
  rw [q1] at c1
  rw [q2] at c2
  rw [q3] at c3
  rw [q4, q5] at c4
  rw [q6] at c6
  rw [q7] at c8
  rw [q8] at c9
  refine Does.intro (fn := Try.f7) Try.func7 rfl rfl fun Γ hΓ => ?_
  refine W.run TOK 66 hΓ 1000 ?_
  conv => whnf
  refine ⟨?_, ?_⟩
  repeat' first
    | assumption
    | exact Bool.noConfusion hb
    | exact absurd hb (by decide)
    | (exfalso; omega)
    | (exfalso; simp at hb; done)
    | exact absurd hb (by decide)
    | (refine W.retA TOK rfl ?_; (conv => whnf); refine ⟨rfl, rfl, rfl, rfl, rfl, rfl, ?_, ?_, ?_⟩)
    | (refine W.branch rfl (fun hb => ?_) (fun hb => ?_) <;> ((try simp only [decide_eq_true_eq, decide_eq_false_iff_not, Bool.not_eq_true', Bool.not_eq_false', Int.not_lt, Int.not_le, cond_true, cond_false, reduceCtorEq, Int.toNat_natCast, Int.reduceToNat, addI] at hb); (try replace hb := of_decide_eq_true hb); (try replace hb := of_decide_eq_false hb)))
    | (refine D.branch rfl (fun hb => ?_) (fun hb => ?_) <;> ((try simp only [decide_eq_true_eq, decide_eq_false_iff_not, Bool.not_eq_true', Bool.not_eq_false', Int.not_lt, Int.not_le, cond_true, cond_false, reduceCtorEq, Int.toNat_natCast, Int.reduceToNat, addI] at hb); (try replace hb := of_decide_eq_true hb); (try replace hb := of_decide_eq_false hb)))
    | ((first | (refine D.callA (hnew_does) rfl rfl rfl rfl hΓ rfl ?_; (conv => whnf); refine ⟨rfl, rfl, rfl, ?_, ?_, ?_, ?_⟩) | (refine W.callA (hnew_does) rfl rfl rfl rfl hΓ rfl ?_; (conv => whnf); refine ⟨rfl, rfl, ?_, ?_, ?_, ?_⟩)); iterate 3 (focus ((repeat' apply And.intro) <;> first | exact trivial | (intro i _; rw [Nat.zero_add]; exact A.sim.refl _) | with_reducible exact rfl | exact fun _ _ => A.sim.refl _ | exact A.sim.refl _ | exact rfl | exact Nat.le_refl _ | omega | exact fun i _ => shift_sim _ _ i | exact fun _ _ => trivial | exact fun _ h => absurd h (Nat.not_lt_zero _) | (refine sim_lit ?_; (repeat' apply And.intro) <;> first | exact trivial | exact rfl) | exact due_flat _ _)); (conv => whnf))
    | ((first | (refine D.callA (c1) rfl rfl rfl rfl hΓ rfl ?_; (conv => whnf); refine ⟨rfl, rfl, rfl, ?_, ?_, ?_, ?_⟩) | (refine W.callA (c1) rfl rfl rfl rfl hΓ rfl ?_; (conv => whnf); refine ⟨rfl, rfl, ?_, ?_, ?_, ?_⟩)); iterate 3 (focus ((repeat' apply And.intro) <;> first | exact trivial | (intro i _; rw [Nat.zero_add]; exact A.sim.refl _) | with_reducible exact rfl | exact fun _ _ => A.sim.refl _ | exact A.sim.refl _ | exact rfl | exact Nat.le_refl _ | omega | exact fun i _ => shift_sim _ _ i | exact fun _ _ => trivial | exact fun _ h => absurd h (Nat.not_lt_zero _) | (refine sim_lit ?_; (repeat' apply And.intro) <;> first | exact trivial | exact rfl) | exact due_flat _ _)); (conv => whnf))
    | ((first | (refine D.callA (c2) rfl rfl rfl rfl hΓ rfl ?_; (conv => whnf); refine ⟨rfl, rfl, rfl, ?_, ?_, ?_, ?_⟩) | (refine W.callA (c2) rfl rfl rfl rfl hΓ rfl ?_; (conv => whnf); refine ⟨rfl, rfl, ?_, ?_, ?_, ?_⟩)); iterate 3 (focus ((repeat' apply And.intro) <;> first | exact trivial | (intro i _; rw [Nat.zero_add]; exact A.sim.refl _) | with_reducible exact rfl | exact fun _ _ => A.sim.refl _ | exact A.sim.refl _ | exact rfl | exact Nat.le_refl _ | omega | exact fun i _ => shift_sim _ _ i | exact fun _ _ => trivial | exact fun _ h => absurd h (Nat.not_lt_zero _) | (refine sim_lit ?_; (repeat' apply And.intro) <;> first | exact trivial | exact rfl) | exact due_flat _ _)); (conv => whnf))
    | ((first | (refine D.callA (c3) rfl rfl rfl rfl hΓ rfl ?_; (conv => whnf); refine ⟨rfl, rfl, rfl, ?_, ?_, ?_, ?_⟩) | (refine W.callA (c3) rfl rfl rfl rfl hΓ rfl ?_; (conv => whnf); refine ⟨rfl, rfl, ?_, ?_, ?_, ?_⟩)); iterate 3 (focus ((repeat' apply And.intro) <;> first | exact trivial | (intro i _; rw [Nat.zero_add]; exact A.sim.refl _) | with_reducible exact rfl | exact fun _ _ => A.sim.refl _ | exact A.sim.refl _ | exact rfl | exact Nat.le_refl _ | omega | exact fun i _ => shift_sim _ _ i | exact fun _ _ => trivial | exact fun _ h => absurd h (Nat.not_lt_zero _) | (refine sim_lit ?_; (repeat' apply And.intro) <;> first | exact trivial | exact rfl) | exact due_flat _ _)); (conv => whnf))
    | ((first | (refine D.callA (c4) rfl rfl rfl rfl hΓ rfl ?_; (conv => whnf); refine ⟨rfl, rfl, rfl, ?_, ?_, ?_, ?_⟩) | (refine W.callA (c4) rfl rfl rfl rfl hΓ rfl ?_; (conv => whnf); refine ⟨rfl, rfl, ?_, ?_, ?_, ?_⟩)); iterate 3 (focus ((repeat' apply And.intro) <;> first | exact trivial | (intro i _; rw [Nat.zero_add]; exact A.sim.refl _) | with_reducible exact rfl | exact fun _ _ => A.sim.refl _ | exact A.sim.refl _ | exact rfl | exact Nat.le_refl _ | omega | exact fun i _ => shift_sim _ _ i | exact fun _ _ => trivial | exact fun _ h => absurd h (Nat.not_lt_zero _) | (refine sim_lit ?_; (repeat' apply And.intro) <;> first | exact trivial | exact rfl) | exact due_flat _ _)); (conv => whnf))
    | ((first | (refine D.callA (c5) rfl rfl rfl rfl hΓ rfl ?_; (conv => whnf); refine ⟨rfl, rfl, rfl, ?_, ?_, ?_, ?_⟩) | (refine W.callA (c5) rfl rfl rfl rfl hΓ rfl ?_; (conv => whnf); refine ⟨rfl, rfl, ?_, ?_, ?_, ?_⟩)); iterate 3 (focus ((repeat' apply And.intro) <;> first | exact trivial | (intro i _; rw [Nat.zero_add]; exact A.sim.refl _) | with_reducible exact rfl | exact fun _ _ => A.sim.refl _ | exact A.sim.refl _ | exact rfl | exact Nat.le_refl _ | omega | exact fun i _ => shift_sim _ _ i | exact fun _ _ => trivial | exact fun _ h => absurd h (Nat.not_lt_zero _) | (refine sim_lit ?_; (repeat' apply And.intro) <;> first | exact trivial | exact rfl) | exact due_flat _ _)); (conv => whnf))
    | ((first | (refine D.callA (c6) rfl rfl rfl rfl hΓ rfl ?_; (conv => whnf); refine ⟨rfl, rfl, rfl, ?_, ?_, ?_, ?_⟩) | (refine W.callA (c6) rfl rfl rfl rfl hΓ rfl ?_; (conv => whnf); refine ⟨rfl, rfl, ?_, ?_, ?_, ?_⟩)); iterate 3 (focus ((repeat' apply And.intro) <;> first | exact trivial | (intro i _; rw [Nat.zero_add]; exact A.sim.refl _) | with_reducible exact rfl | exact fun _ _ => A.sim.refl _ | exact A.sim.refl _ | exact rfl | exact Nat.le_refl _ | omega | exact fun i _ => shift_sim _ _ i | exact fun _ _ => trivial | exact fun _ h => absurd h (Nat.not_lt_zero _) | (refine sim_lit ?_; (repeat' apply And.intro) <;> first | exact trivial | exact rfl) | exact due_flat _ _)); (conv => whnf))
    | ((first | (refine D.callA (c7) rfl rfl rfl rfl hΓ rfl ?_; (conv => whnf); refine ⟨rfl, rfl, rfl, ?_, ?_, ?_, ?_⟩) | (refine W.callA (c7) rfl rfl rfl rfl hΓ rfl ?_; (conv => whnf); refine ⟨rfl, rfl, ?_, ?_, ?_, ?_⟩)); iterate 3 (focus ((repeat' apply And.intro) <;> first | exact trivial | (intro i _; rw [Nat.zero_add]; exact A.sim.refl _) | with_reducible exact rfl | exact fun _ _ => A.sim.refl _ | exact A.sim.refl _ | exact rfl | exact Nat.le_refl _ | omega | exact fun i _ => shift_sim _ _ i | exact fun _ _ => trivial | exact fun _ h => absurd h (Nat.not_lt_zero _) | (refine sim_lit ?_; (repeat' apply And.intro) <;> first | exact trivial | exact rfl) | exact due_flat _ _)); (conv => whnf))
    | ((first | (refine D.callA (c8) rfl rfl rfl rfl hΓ rfl ?_; (conv => whnf); refine ⟨rfl, rfl, rfl, ?_, ?_, ?_, ?_⟩) | (refine W.callA (c8) rfl rfl rfl rfl hΓ rfl ?_; (conv => whnf); refine ⟨rfl, rfl, ?_, ?_, ?_, ?_⟩)); iterate 3 (focus ((repeat' apply And.intro) <;> first | exact trivial | (intro i _; rw [Nat.zero_add]; exact A.sim.refl _) | with_reducible exact rfl | exact fun _ _ => A.sim.refl _ | exact A.sim.refl _ | exact rfl | exact Nat.le_refl _ | omega | exact fun i _ => shift_sim _ _ i | exact fun _ _ => trivial | exact fun _ h => absurd h (Nat.not_lt_zero _) | (refine sim_lit ?_; (repeat' apply And.intro) <;> first | exact trivial | exact rfl) | exact due_flat _ _)); (conv => whnf))
    | ((first | (refine D.callA (c9) rfl rfl rfl rfl hΓ rfl ?_; (conv => whnf); refine ⟨rfl, rfl, rfl, ?_, ?_, ?_, ?_⟩) | (refine W.callA (c9) rfl rfl rfl rfl hΓ rfl ?_; (conv => whnf); refine ⟨rfl, rfl, ?_, ?_, ?_, ?_⟩)); iterate 3 (focus ((repeat' apply And.intro) <;> first | exact trivial | (intro i _; rw [Nat.zero_add]; exact A.sim.refl _) | with_reducible exact rfl | exact fun _ _ => A.sim.refl _ | exact A.sim.refl _ | exact rfl | exact Nat.le_refl _ | omega | exact fun i _ => shift_sim _ _ i | exact fun _ _ => trivial | exact fun _ h => absurd h (Nat.not_lt_zero _) | (refine sim_lit ?_; (repeat' apply And.intro) <;> first | exact trivial | exact rfl) | exact due_flat _ _)); (conv => whnf))
    | (refine W.go TOK 66 hΓ 1000 rfl ?_; (conv => whnf); refine ⟨?_, ?_⟩)
    | (refine D.go TOK 66 hΓ 1000 rfl ?_; (conv => whnf); refine ⟨?_, ?_⟩)
    | (refine W.drawn rfl rfl ?_; refine D.run TOK 66 hΓ 1000 ?_; (conv => whnf); refine ⟨?_, ?_⟩)
  all_goals (repeat' apply And.intro)
  all_goals try (first
    | exact trivial
    | exact rfl
    | exact fun _ _ => A.sim.refl _
    | exact A.sim.refl _
    | exact Nat.le_refl _
    | omega
    | exact fun _ _ => trivial
    | exact fun i _ => shift_sim _ _ i
    | exact fun _ h => absurd h (Nat.not_lt_zero _)
    | exact fun i _ => isInt_byteAt _ i
    | decide
    | exact ⟨rfl, rfl⟩
    | (simp only [allP, List.nil_append, List.append_nil, List.cons_append, List.append_eq, and_true, true_and, inr_i64, inr_u8, inr_u64, min_i64, max_i64, min_u64, max_u64, min_u8, max_u8, A.purePL, A.pureP, A.sureP, A.surePL, Int.toNat_natCast, Int.reduceToNat, addI, cHi, cLo, hiN, loN, subO, addO, hasIdx, cond_true, cond_false]; first | done | omega | ((repeat' apply And.intro) <;> first | exact trivial | rfl | omega | decide))
    )

end Go.Proofs.Ytaiaaaeodpgajaa
