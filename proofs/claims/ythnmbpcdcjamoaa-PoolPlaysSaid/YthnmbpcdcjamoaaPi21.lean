/- Walks: who is picked. -/
import Derived.Test.YthnmbpcdcjamoaaPp21
import Derived.Test.YthnmbpcdcjamoaaNa21
import Derived.Test.YthnmbpcdcjamoaaPoSpec3
set_option linter.unusedSimpArgs false
set_option linter.unusedVariables false
namespace Go.Proofs.Ythnmbpcdcjamoaa
open VX
set_option maxRecDepth 100000
set_option maxHeartbeats 4000000
def bump (G : List UInt8 → Int) (s : List UInt8) : List UInt8 → Int := fun x => if x = s then G s + 1 else G x
theorem bump_map (G : List UInt8 → Int) (s : List UInt8) : setM (fairM G) s (.int .i64 (G s + 1)) = fairM (bump G s) := by
  funext x
  unfold setM fairM bump
  by_cases h : x = s
  · subst h; simp
  · simp [h]
theorem bump_does (s : List UInt8) (ks : List (List UInt8)) (G : List UInt8 → Int) (hG : 0 ≤ G s ∧ G s < 1000000000) : Does Try.prog 22 [.ptr 1000 [], .str s] [(1000, some (.var (.agg [.map 1001]))), (1001, some (.smap (.int .i64 0) ks (fairM G)))] [] (Is (.tup []) [(1000, some (.var (.agg [.map 1001]))), (1001, some (.smap (.int .i64 0) (insK s ks) (fairM (bump G s))))]) := by
  have h := serve_does s ks G hG
  rw [bump_map] at h
  exact h

theorem srt_perm2 {a b : List Due} (h : List.Perm a b) : HP.srt lessS a = HP.srt lessS b := HP.srt_of less_ord (HP.srt_sl less_ord a) ((HP.srt_perm a).trans h)
theorem at_drop (l : List Due) (i k : Nat) : HP.at_ (l.drop i) k = HP.at_ l (i + k) := by
  simp [HP.at_, List.getD_eq_getElem?_getD]
structure Pops (a : List Due) : Prop where
  top : popT a = (HP.at_ (HP.srt lessS a) 0, true)
  rest : HP.srt lessS (popR a) = (HP.srt lessS a).tail
  heap : HP.Heap lessS (popR a) (popR a).length
  len : (popR a).length = a.length - 1
theorem pops {a : List Due} (h : HP.Heap lessS a a.length) (h0 : 0 < a.length) : Pops a := by
  obtain ⟨e1, h2, p⟩ := HP.pop_facts less_ord h h0
  have hl : ((HP.popS lessS a).take (a.length - 1)).length = a.length - 1 := by rw [List.length_take, HP.pop_len]; omega
  have eR : popR a = (HP.popS lessS a).take (a.length - 1) := if_neg (by omega)
  have eT : popT a = (HP.at_ (HP.popS lessS a) (a.length - 1), true) := if_neg (by omega)
  have hs : HP.Sl lessS (HP.at_ a 0 :: HP.srt lessS ((HP.popS lessS a).take (a.length - 1))) := List.pairwise_cons.2 ⟨fun y hy => by
    have hy2 : y ∈ a := p.subset (List.mem_cons_of_mem _ ((HP.srt_perm _).subset hy))
    obtain ⟨k, hk, rfl⟩ := HP.mem_at hy2
    exact HP.heap_min less_ord h k hk, HP.srt_sl less_ord _⟩
  have e := HP.srt_of less_ord hs (((HP.srt_perm _).cons _).trans p)
  refine ⟨?_, ?_, ?_, ?_⟩
  · rw [eT, e1, ← e]; rfl
  · rw [eR, ← e]; rfl
  · rw [eR, hl]; exact h2
  · rw [eR, hl]
theorem push_is {a : List Due} (h : HP.Heap lessS a a.length) (d : Due) : HP.Heap lessS (HP.pushS lessS a d) (HP.pushS lessS a d).length := by
  rw [HP.push_len]
  exact HP.push_heap less_ord h d
/-- What the k-th pop tells. -/
def dAt (w : List Due) (k : Nat) : Due × Bool := if k < w.length then (HP.at_ w k, true) else (default, false)
structure FillJ (G : List UInt8 → Int) (l : List Pen) (x : Nat × List Due × List (List UInt8)) : Prop where
  i : x.1 ≤ l.length
  ks : x.2.2 = (frs (l.take x.1)).map (·.u.name)
  len : x.2.1.length ≤ x.1
  heap : HP.Heap lessS x.2.1 x.2.1.length
  perm : List.Perm x.2.1 (dues G (l.take x.1))
theorem FillJ.old {G : List UInt8 → Int} {l : List Pen} {i : Nat} {a : List Due} {ks : List (List UInt8)} (h : FillJ G l (i, a, ks)) (hi : i < l.length) (hm : (HP.at_ l i).u.name ∈ (l.take i).map (·.u.name)) : FillJ G l (i + 1, a, ks) := by
  refine ⟨hi, ?_, ?_, h.heap, ?_⟩
  · simp only; rw [take_snoc hi, frs_old hm]; exact h.ks
  · have := h.len; simp only at this ⊢; omega
  · simp only; rw [take_snoc hi, dues_old hm]; exact h.perm
theorem FillJ.no {G : List UInt8 → Int} {l : List Pen} {i : Nat} {a : List Due} {ks : List (List UInt8)} (h : FillJ G l (i, a, ks)) (hi : i < l.length) (hm : (HP.at_ l i).u.name ∉ (l.take i).map (·.u.name)) (hs : (HP.at_ l i).syn = false) : FillJ G l (i + 1, a, ks ++ [(HP.at_ l i).u.name]) := by
  have hk : ks = (frs (l.take i)).map (·.u.name) := h.ks
  refine ⟨hi, ?_, ?_, h.heap, ?_⟩
  · simp only; rw [take_snoc hi, frs_new hm, List.map_append, hk]; rfl
  · have := h.len; simp only at this ⊢; omega
  · simp only; rw [take_snoc hi, dues_new hm, if_neg (by rw [hs]; decide), List.append_nil]; exact h.perm
theorem FillJ.yes {G : List UInt8 → Int} {l : List Pen} {i : Nat} {a : List Due} {ks : List (List UInt8)} (h : FillJ G l (i, a, ks)) (hi : i < l.length) (hm : (HP.at_ l i).u.name ∉ (l.take i).map (·.u.name)) (hs : (HP.at_ l i).syn = true) : FillJ G l (i + 1, HP.pushS lessS a (dueOf G (HP.at_ l i)), ks ++ [(HP.at_ l i).u.name]) := by
  have hk : ks = (frs (l.take i)).map (·.u.name) := h.ks
  refine ⟨hi, ?_, ?_, push_is h.heap _, ?_⟩
  · simp only; rw [take_snoc hi, frs_new hm, List.map_append, hk]; rfl
  · have := h.len; simp only [HP.push_len] at this ⊢; omega
  · simp only
    rw [take_snoc hi, dues_new hm, if_pos hs]
    exact (HP.push_perm _ _).trans ((h.perm.cons _).trans (List.perm_append_comm (l₁ := dues G (l.take i)) (l₂ := [dueOf G (HP.at_ l i)])).symm)
structure TakeJ (w : List Due) (n : Int) (x : Nat × List Due) : Prop where
  k : x.1 ≤ w.length
  n : x.1 ≤ n.toNat
  len : x.2.length = w.length - (x.1 + 1)
  heap : HP.Heap lessS x.2 x.2.length
  srt : HP.srt lessS x.2 = w.drop (x.1 + 1)
theorem pop_some {w a : List Due} {k : Nat} (hl : a.length = w.length - k) (hh : HP.Heap lessS a a.length) (hs : HP.srt lessS a = w.drop k) : popT a = dAt w k ∧ (popR a).length = w.length - (k + 1) ∧ HP.Heap lessS (popR a) (popR a).length ∧ HP.srt lessS (popR a) = w.drop (k + 1) := by
  by_cases hk : k < w.length
  · have p := pops hh (by omega)
    refine ⟨?_, by rw [p.len]; omega, p.heap, ?_⟩
    · rw [p.top, hs, at_drop, dAt, if_pos hk]; rfl
    · rw [p.rest, hs, List.tail_drop]
  · have ha : a = [] := List.eq_nil_of_length_eq_zero (by omega)
    subst ha
    refine ⟨?_, by show 0 = _; omega, fun k hk0 hk => absurd hk (Nat.not_lt_zero _), ?_⟩
    · rw [dAt, if_neg hk]; rfl
    · rw [List.drop_of_length_le (by omega)]; rfl
theorem FillJ.out {G : List UInt8 → Int} {l : List Pen} {i : Nat} {a : List Due} {ks : List (List UInt8)} (h : FillJ G l (i, a, ks)) (hi : ¬ i < l.length) (n : Int) : popT a = dAt (HP.srt lessS (dues G l)) 0 ∧ TakeJ (HP.srt lessS (dues G l)) n (0, popR a) := by
  have hp : List.Perm a (dues G (l.take i)) := h.perm
  rw [List.take_of_length_le (by omega)] at hp
  have hl := HP.srt_len (lt := lessS) (dues G l)
  have p := pop_some (w := HP.srt lessS (dues G l)) (a := a) (k := 0) (by rw [hl, hp.length_eq]; rfl) h.heap ((srt_perm2 hp).trans rfl)
  exact ⟨p.1, Nat.zero_le _, Nat.zero_le _, p.2.1, p.2.2.1, p.2.2.2⟩
theorem TakeJ.step {w : List Due} {n : Int} {k : Nat} {b : List Due} (h : TakeJ w n (k, b)) (hk : k < w.length) (hn : (k : Int) < n) : popT b = dAt w (k + 1) ∧ TakeJ w n (k + 1, popR b) := by
  have p := pop_some (w := w) (a := b) (k := k + 1) h.len h.heap h.srt
  exact ⟨p.1, hk, by simp only; omega, p.2.1, p.2.2.1, p.2.2.2⟩
theorem TakeJ.fin {w : List Due} {n : Int} {k : Nat} {b : List Due} (h : TakeJ w n (k, b)) (hk : ¬ (k < w.length ∧ (k : Int) < n)) : w.take k = w.take n.toNat := by
  have h1 : k ≤ w.length := h.k
  have h2 : k ≤ n.toNat := h.n
  by_cases e : k = n.toNat
  · rw [e]
  · rw [List.take_of_length_le (by omega), List.take_of_length_le (by omega)]

theorem pen_one (p : Pen) : ∀ I ρ v, R I ρ (penA p) v → R I nr (penA p) v := pure_one ⟨⟨trivial, trivial, trivial, trivial, ⟨trivial, trivial, trivial⟩, trivial⟩, trivial, trivial, trivial, trivial⟩

theorem pick_does (l : List Pen) (sh : Bool) (ks0 : List (List UInt8)) (G : List UInt8 → Int) (n : Int) (h9 : l.length ≤ 1000) (ht : ∀ p ∈ l, 0 ≤ p.tick ∧ p.tick ≤ 1000000000) : Does Try.prog 13 [.ptr 1000 [], .ptr 1004 [], .int .i64 n] [(1000, some (.var (.agg [.own 9 1001 0 l.length, .bool sh]))), (1001, some (.arr 9 l.length (lsA penA l))), (1004, some (.var (.agg [.map 1005]))), (1005, some (.smap (.int .i64 0) ks0 (fairM G)))] [1] (Is (.own 9 1 0 (pickS G l n).length) ((1, some (.arr 9 (pickS G l n).length (lsA penA (pickS G l n)))) :: [(1000, some (.var (.agg [.own 9 1001 0 l.length, .bool sh]))), (1001, some (.arr 9 l.length (lsA penA l))), (1004, some (.var (.agg [.map 1005]))), (1005, some (.smap (.int .i64 0) ks0 (fairM G)))])) := by
  refine Does.intro (fn := Try.f13) Try.func13 rfl rfl fun Γ hΓ => ?_
  refine W.run TOK 91 hΓ 1000 ?_
  conv => whnf
  refine ⟨?_, ?_⟩
  repeat' first
    | assumption
    | exact Bool.noConfusion hb
    | exact absurd hb (by decide)
    | (exfalso; omega)
    | (exfalso; simp at hb; done)
    | (refine W.makeMap (nt := 91) hΓ rfl rfl rfl rfl (nm := 699) rfl (penA default) ?_)
    | (refine W.mapLook2 TOK (nt := 91) hΓ rfl rfl rfl rfl rfl rfl rfl rfl rfl rfl ?_ ?_; (focus exact ⟨⟨trivial, trivial, trivial, trivial, ⟨trivial, trivial, trivial⟩, trivial⟩, trivial, trivial, trivial, trivial⟩))
    | (refine W.mapLook TOK (nt := 91) hΓ rfl rfl rfl rfl rfl rfl rfl rfl rfl rfl ?_ ?_; (focus exact ⟨⟨trivial, trivial, trivial, trivial, ⟨trivial, trivial, trivial⟩, trivial⟩, trivial, trivial, trivial, trivial⟩))
    | (refine W.mapSet TOK rfl rfl rfl rfl rfl rfl rfl rfl rfl rfl (pen_one _) ?_)
    | (refine W.branch rfl (fun hb => ?_) (fun hb => ?_) <;> ((try simp only [decide_eq_true_eq, decide_eq_false_iff_not, Bool.not_eq_true', Bool.not_eq_false', Int.not_lt, Int.not_le, cond_true, cond_false, reduceCtorEq, Int.toNat_natCast, Int.reduceToNat, addI] at hb); (try replace hb := of_decide_eq_true hb); (try replace hb := of_decide_eq_false hb)))
    | (refine D.branch rfl (fun hb => ?_) (fun hb => ?_) <;> ((try simp only [decide_eq_true_eq, decide_eq_false_iff_not, Bool.not_eq_true', Bool.not_eq_false', Int.not_lt, Int.not_le, cond_true, cond_false, reduceCtorEq, Int.toNat_natCast, Int.reduceToNat, addI] at hb); (try replace hb := of_decide_eq_true hb); (try replace hb := of_decide_eq_false hb)))
    | ((first | (refine D.callA (new_does) rfl rfl rfl rfl hΓ rfl ?_; (conv => whnf); refine ⟨rfl, rfl, rfl, ?_, ?_, ?_, ?_⟩) | (refine W.callA (new_does) rfl rfl rfl rfl hΓ rfl ?_; (conv => whnf); refine ⟨rfl, rfl, ?_, ?_, ?_, ?_⟩)); iterate 3 (focus ((repeat' apply And.intro) <;> first | exact trivial | (intro i _; rw [Nat.zero_add]; exact A.sim.refl _) | with_reducible exact rfl | exact fun _ _ => A.sim.refl _ | exact A.sim.refl _ | exact rfl | exact Nat.le_refl _ | omega | exact fun i _ => shift_sim _ _ i | exact fun _ _ => trivial | exact fun _ h => absurd h (Nat.not_lt_zero _))); (conv => whnf))
    | ((first | (refine D.callA (hnew_does) rfl rfl rfl rfl hΓ rfl ?_; (conv => whnf); refine ⟨rfl, rfl, rfl, ?_, ?_, ?_, ?_⟩) | (refine W.callA (hnew_does) rfl rfl rfl rfl hΓ rfl ?_; (conv => whnf); refine ⟨rfl, rfl, ?_, ?_, ?_, ?_⟩)); iterate 3 (focus ((repeat' apply And.intro) <;> first | exact trivial | (intro i _; rw [Nat.zero_add]; exact A.sim.refl _) | with_reducible exact rfl | exact fun _ _ => A.sim.refl _ | exact A.sim.refl _ | exact rfl | exact Nat.le_refl _ | omega | exact fun i _ => shift_sim _ _ i | exact fun _ _ => trivial | exact fun _ h => absurd h (Nat.not_lt_zero _))); (conv => whnf))
    | (refine W.go TOK 91 hΓ 1000 rfl ?_; (conv => whnf); refine ⟨?_, ?_⟩)
    | (refine D.go TOK 91 hΓ 1000 rfl ?_; (conv => whnf); refine ⟨?_, ?_⟩)
    | (refine W.drawn rfl rfl ?_; refine D.run TOK 91 hΓ 1000 ?_; (conv => whnf); refine ⟨?_, ?_⟩)
  all_goals (repeat' apply And.intro)
  all_goals try (first
    | exact trivial
    | exact rfl
    | exact fun _ _ => A.sim.refl _
    | exact A.sim.refl _
    | exact Nat.le_refl _
    | omega
    | exact fun _ _ => trivial
    | exact fun i _ => shift_sim _ _ i
    | exact fun _ h => absurd h (Nat.not_lt_zero _)
    | exact fun i _ => isInt_byteAt _ i
    | (simp only [allP, List.nil_append, List.append_nil, List.cons_append, List.append_eq, and_true, true_and, inr_i64, inr_u8, inr_u64, min_i64, max_i64, min_u64, max_u64, min_u8, max_u8, A.purePL, A.pureP, A.sureP, A.surePL, Int.toNat_natCast, Int.reduceToNat, addI, cHi, cLo, hiN, loN, subO, addO, hasIdx, cond_true, cond_false]; first | done | omega | ((repeat' apply And.intro) <;> first | exact trivial | rfl | omega | decide))
    )
  refine W.loopA (Nat × List Due × List (List UInt8)) (FillJ G l) (fun x => l.length - x.1) (fun x => [(8, .map 699), (9, .ptr 701 []), (30, .int .i64 (x.1 : Nat))]) (fun x => [(699, some (.smap (penA default) x.2.2 fun s => penA (fnd (l.take x.1) s))), (701, some (.var (.agg [.own 4 702 0 x.2.1.length]))), (702, some (.arr 4 x.2.1.length (lsA dueA x.2.1)))]) [] ((0, [], [])) (⟨Nat.zero_le _, rfl, Nat.le_refl _, fun k hk0 hk => absurd hk (Nat.not_lt_zero _), List.Perm.refl _⟩) ?_
  (conv => whnf); refine ⟨?_, ?_⟩; focus ((conv => whnf); refine ⟨rfl, rfl, rfl, rfl, rfl, rfl, ?_, ?_⟩; iterate 2 (focus ((repeat' apply And.intro) <;> first | exact trivial | (intro i _; rw [Nat.zero_add]; exact A.sim.refl _) | with_reducible exact rfl | exact fun _ _ => A.sim.refl _ | exact A.sim.refl _ | exact rfl | exact Nat.le_refl _ | omega | exact fun i _ => shift_sim _ _ i | exact fun _ _ => trivial | exact fun _ h => absurd h (Nat.not_lt_zero _))))
  rintro ⟨i, a, ks⟩ hJ ih
  have hi : i ≤ l.length := hJ.i
  have hks : ks = (frs (l.take i)).map (·.u.name) := hJ.ks
  have hal : a.length ≤ i := hJ.len
  by_cases hil : i < l.length
  · have hmem : (HP.at_ l i).u.name ∈ ks ↔ (HP.at_ l i).u.name ∈ (l.take i).map (·.u.name) := by rw [hks]; exact frs_names _ _
    by_cases hm : (HP.at_ l i).u.name ∈ ks
    · have ih2 := ih (i + 1, a, ks) (hJ.old hil (hmem.1 hm)) (by simp only; omega)
      simp only at ih2
      rw [take_snoc hil, fnd_old (hmem.1 hm)] at ih2
      have hd : decide ((HP.at_ l i).u.name ∈ ks) = true := decide_eq_true hm
      repeat' first
        | assumption
        | exact Bool.noConfusion hb
        | exact absurd hb (by decide)
        | (exfalso; omega)
        | exact absurd hm hb
        | (refine W.makeMap (nt := 91) hΓ rfl rfl rfl rfl (nm := 699) rfl (penA default) ?_)
        | (refine W.mapLook2 TOK (nt := 91) hΓ rfl rfl rfl rfl rfl rfl rfl rfl rfl rfl ?_ ?_; (focus exact ⟨⟨trivial, trivial, trivial, trivial, ⟨trivial, trivial, trivial⟩, trivial⟩, trivial, trivial, trivial, trivial⟩))
        | (refine W.mapLook TOK (nt := 91) hΓ rfl rfl rfl rfl rfl rfl rfl rfl rfl rfl ?_ ?_; (focus exact ⟨⟨trivial, trivial, trivial, trivial, ⟨trivial, trivial, trivial⟩, trivial⟩, trivial, trivial, trivial, trivial⟩))
        | (refine W.mapSet TOK rfl rfl rfl rfl rfl rfl rfl rfl rfl rfl (pen_one _) ?_)
        | (refine W.toA (ih2) ?_; rotate_left 0; (conv => whnf); refine ⟨rfl, rfl, rfl, rfl, rfl, rfl, ?_, ?_⟩; iterate 2 (focus ((repeat' apply And.intro) <;> first | exact trivial | (intro i _; rw [Nat.zero_add]; exact A.sim.refl _) | with_reducible exact rfl | exact fun _ _ => A.sim.refl _ | exact A.sim.refl _ | exact rfl | exact Nat.le_refl _ | omega | exact fun i _ => shift_sim _ _ i | exact fun _ _ => trivial | exact fun _ h => absurd h (Nat.not_lt_zero _))))
        | (refine W.branch rfl (fun hb => ?_) (fun hb => ?_) <;> ((try simp only [decide_eq_true_eq, decide_eq_false_iff_not, Bool.not_eq_true', Bool.not_eq_false', Int.not_lt, Int.not_le, cond_true, cond_false, reduceCtorEq, Int.toNat_natCast, Int.reduceToNat, addI] at hb); (try replace hb := of_decide_eq_true hb); (try replace hb := of_decide_eq_false hb)))
        | (refine D.branch rfl (fun hb => ?_) (fun hb => ?_) <;> ((try simp only [decide_eq_true_eq, decide_eq_false_iff_not, Bool.not_eq_true', Bool.not_eq_false', Int.not_lt, Int.not_le, cond_true, cond_false, reduceCtorEq, Int.toNat_natCast, Int.reduceToNat, addI] at hb); (try replace hb := of_decide_eq_true hb); (try replace hb := of_decide_eq_false hb)))
        | (refine W.go TOK 91 hΓ 1000 rfl ?_; (conv => whnf); refine ⟨?_, ?_⟩)
        | (refine D.go TOK 91 hΓ 1000 rfl ?_; (conv => whnf); refine ⟨?_, ?_⟩)
        | (refine W.drawn rfl rfl ?_; refine D.run TOK 91 hΓ 1000 ?_; (conv => whnf); refine ⟨?_, ?_⟩)
      all_goals (repeat' apply And.intro)
      all_goals try (first
        | exact trivial
        | exact rfl
        | exact fun _ _ => A.sim.refl _
        | exact A.sim.refl _
        | exact Nat.le_refl _
        | omega
        | exact fun _ _ => trivial
        | exact fun i _ => shift_sim _ _ i
        | exact fun _ h => absurd h (Nat.not_lt_zero _)
        | exact fun i _ => isInt_byteAt _ i
        | (simp only [allP, List.nil_append, List.append_nil, List.cons_append, List.append_eq, and_true, true_and, inr_i64, inr_u8, inr_u64, min_i64, max_i64, min_u64, max_u64, min_u8, max_u8, A.purePL, A.pureP, A.sureP, A.surePL, Int.toNat_natCast, Int.reduceToNat, addI, cHi, cLo, hiN, loN, subO, addO, hasIdx, cond_true, cond_false]; first | done | omega | ((repeat' apply And.intro) <;> first | exact trivial | rfl | omega | decide))
        )
    have hm2 := fun e => hm (hmem.2 e)
    have hin : insK (HP.at_ l i).u.name ks = ks ++ [(HP.at_ l i).u.name] := if_neg hm
    have hfn := fnd_new hm2
    rw [← take_snoc hil] at hfn
    have htk := ht _ (HP.at_mem hil)
    have hin40 : inr .i64 ((HP.at_ l i).tick + 40) := inr_i64.2 (by omega)
    cases hsy : (HP.at_ l i).syn with
    | false =>
      have ih2 := ih (i + 1, a, ks ++ [(HP.at_ l i).u.name]) (hJ.no hil hm2 hsy) (by simp only; omega)
      simp only at ih2
      rw [hfn, ← hin] at ih2
      repeat' first
        | assumption
        | exact Bool.noConfusion hb
        | exact absurd hb (by decide)
        | (exfalso; omega)
        | exact absurd hb hm
        | exact absurd (hsy.symm.trans hb) (by decide)
        | (refine W.makeMap (nt := 91) hΓ rfl rfl rfl rfl (nm := 699) rfl (penA default) ?_)
        | (refine W.mapLook2 TOK (nt := 91) hΓ rfl rfl rfl rfl rfl rfl rfl rfl rfl rfl ?_ ?_; (focus exact ⟨⟨trivial, trivial, trivial, trivial, ⟨trivial, trivial, trivial⟩, trivial⟩, trivial, trivial, trivial, trivial⟩))
        | (refine W.mapLook TOK (nt := 91) hΓ rfl rfl rfl rfl rfl rfl rfl rfl rfl rfl ?_ ?_; (focus exact ⟨⟨trivial, trivial, trivial, trivial, ⟨trivial, trivial, trivial⟩, trivial⟩, trivial, trivial, trivial, trivial⟩))
        | (refine W.mapSet TOK rfl rfl rfl rfl rfl rfl rfl rfl rfl rfl (pen_one _) ?_)
        | (refine W.toA (ih2) ?_; rotate_left 0; (conv => whnf); refine ⟨rfl, rfl, rfl, rfl, rfl, rfl, ?_, ?_⟩; iterate 2 (focus ((repeat' apply And.intro) <;> first | exact trivial | (intro i _; rw [Nat.zero_add]; exact A.sim.refl _) | with_reducible exact rfl | exact fun _ _ => A.sim.refl _ | exact A.sim.refl _ | exact rfl | exact Nat.le_refl _ | omega | exact fun i _ => shift_sim _ _ i | exact fun _ _ => trivial | exact fun _ h => absurd h (Nat.not_lt_zero _))))
        | (refine W.branch rfl (fun hb => ?_) (fun hb => ?_) <;> ((try simp only [decide_eq_true_eq, decide_eq_false_iff_not, Bool.not_eq_true', Bool.not_eq_false', Int.not_lt, Int.not_le, cond_true, cond_false, reduceCtorEq, Int.toNat_natCast, Int.reduceToNat, addI] at hb); (try replace hb := of_decide_eq_true hb); (try replace hb := of_decide_eq_false hb)))
        | (refine D.branch rfl (fun hb => ?_) (fun hb => ?_) <;> ((try simp only [decide_eq_true_eq, decide_eq_false_iff_not, Bool.not_eq_true', Bool.not_eq_false', Int.not_lt, Int.not_le, cond_true, cond_false, reduceCtorEq, Int.toNat_natCast, Int.reduceToNat, addI] at hb); (try replace hb := of_decide_eq_true hb); (try replace hb := of_decide_eq_false hb)))
        | (refine W.go TOK 91 hΓ 1000 rfl ?_; (conv => whnf); refine ⟨?_, ?_⟩)
        | (refine D.go TOK 91 hΓ 1000 rfl ?_; (conv => whnf); refine ⟨?_, ?_⟩)
        | (refine W.drawn rfl rfl ?_; refine D.run TOK 91 hΓ 1000 ?_; (conv => whnf); refine ⟨?_, ?_⟩)
      all_goals (repeat' apply And.intro)
      all_goals try (first
        | exact trivial
        | exact rfl
        | exact fun _ _ => A.sim.refl _
        | exact A.sim.refl _
        | exact Nat.le_refl _
        | omega
        | exact fun _ _ => trivial
        | exact fun i _ => shift_sim _ _ i
        | exact fun _ h => absurd h (Nat.not_lt_zero _)
        | exact fun i _ => isInt_byteAt _ i
        | (simp only [allP, List.nil_append, List.append_nil, List.cons_append, List.append_eq, and_true, true_and, inr_i64, inr_u8, inr_u64, min_i64, max_i64, min_u64, max_u64, min_u8, max_u8, A.purePL, A.pureP, A.sureP, A.surePL, Int.toNat_natCast, Int.reduceToNat, addI, cHi, cLo, hiN, loN, subO, addO, hasIdx, cond_true, cond_false]; first | done | omega | ((repeat' apply And.intro) <;> first | exact trivial | rfl | omega | decide))
        )
    | true =>
      have ih2 := ih (i + 1, HP.pushS lessS a (dueOf G (HP.at_ l i)), ks ++ [(HP.at_ l i).u.name]) (hJ.yes hil hm2 hsy) (by simp only; omega)
      simp only at ih2
      rw [hfn, ← hin] at ih2
      have cs := served_does (HP.at_ l i).u.name ks0 G
      have cp := push_does a (dueOf G (HP.at_ l i)) (by omega)
      repeat' first
        | assumption
        | exact Bool.noConfusion hb
        | exact absurd hb (by decide)
        | (exfalso; omega)
        | exact absurd hb hm
        | exact absurd (hsy.symm.trans hb) (by decide)
        | (refine W.makeMap (nt := 91) hΓ rfl rfl rfl rfl (nm := 699) rfl (penA default) ?_)
        | (refine W.mapLook2 TOK (nt := 91) hΓ rfl rfl rfl rfl rfl rfl rfl rfl rfl rfl ?_ ?_; (focus exact ⟨⟨trivial, trivial, trivial, trivial, ⟨trivial, trivial, trivial⟩, trivial⟩, trivial, trivial, trivial, trivial⟩))
        | (refine W.mapLook TOK (nt := 91) hΓ rfl rfl rfl rfl rfl rfl rfl rfl rfl rfl ?_ ?_; (focus exact ⟨⟨trivial, trivial, trivial, trivial, ⟨trivial, trivial, trivial⟩, trivial⟩, trivial, trivial, trivial, trivial⟩))
        | (refine W.mapSet TOK rfl rfl rfl rfl rfl rfl rfl rfl rfl rfl (pen_one _) ?_)
        | (refine W.toA (ih2) ?_; rotate_left 0; (conv => whnf); refine ⟨rfl, rfl, rfl, rfl, rfl, rfl, ?_, ?_⟩; iterate 2 (focus ((repeat' apply And.intro) <;> first | exact trivial | (intro i _; rw [Nat.zero_add]; exact A.sim.refl _) | with_reducible exact rfl | exact fun _ _ => A.sim.refl _ | exact A.sim.refl _ | exact rfl | exact Nat.le_refl _ | omega | exact fun i _ => shift_sim _ _ i | exact fun _ _ => trivial | exact fun _ h => absurd h (Nat.not_lt_zero _) | exact ⟨rfl, rfl, rfl, rfl⟩)))
        | (refine W.branch rfl (fun hb => ?_) (fun hb => ?_) <;> ((try simp only [decide_eq_true_eq, decide_eq_false_iff_not, Bool.not_eq_true', Bool.not_eq_false', Int.not_lt, Int.not_le, cond_true, cond_false, reduceCtorEq, Int.toNat_natCast, Int.reduceToNat, addI] at hb); (try replace hb := of_decide_eq_true hb); (try replace hb := of_decide_eq_false hb)))
        | (refine D.branch rfl (fun hb => ?_) (fun hb => ?_) <;> ((try simp only [decide_eq_true_eq, decide_eq_false_iff_not, Bool.not_eq_true', Bool.not_eq_false', Int.not_lt, Int.not_le, cond_true, cond_false, reduceCtorEq, Int.toNat_natCast, Int.reduceToNat, addI] at hb); (try replace hb := of_decide_eq_true hb); (try replace hb := of_decide_eq_false hb)))
        | (refine D.callAR (cs) rfl rfl rfl rfl hΓ rfl ?_; (conv => whnf); refine ⟨rfl, rfl, rfl, rfl, ?_, ?_, ?_, ?_, ?_⟩; iterate 4 (focus ((repeat' apply And.intro) <;> first | exact trivial | (intro i _; rw [Nat.zero_add]; exact A.sim.refl _) | with_reducible exact rfl | exact fun _ _ => A.sim.refl _ | exact A.sim.refl _ | exact rfl | exact Nat.le_refl _ | omega | exact fun i _ => shift_sim _ _ i | exact fun _ _ => trivial | exact fun _ h => absurd h (Nat.not_lt_zero _) | exact ⟨rfl, rfl, rfl, rfl⟩)); (conv => whnf))
        | (refine W.callA (cs) rfl rfl rfl rfl hΓ rfl ?_; (conv => whnf); refine ⟨rfl, rfl, ?_, ?_, ?_, ?_⟩; iterate 3 (focus ((repeat' apply And.intro) <;> first | exact trivial | (intro i _; rw [Nat.zero_add]; exact A.sim.refl _) | with_reducible exact rfl | exact fun _ _ => A.sim.refl _ | exact A.sim.refl _ | exact rfl | exact Nat.le_refl _ | omega | exact fun i _ => shift_sim _ _ i | exact fun _ _ => trivial | exact fun _ h => absurd h (Nat.not_lt_zero _) | exact ⟨rfl, rfl, rfl, rfl⟩)); (conv => whnf))
        | ((first | (refine D.callA (cp) rfl rfl rfl rfl hΓ rfl ?_; (conv => whnf); refine ⟨rfl, rfl, rfl, ?_, ?_, ?_, ?_⟩) | (refine W.callA (cp) rfl rfl rfl rfl hΓ rfl ?_; (conv => whnf); refine ⟨rfl, rfl, ?_, ?_, ?_, ?_⟩)); iterate 3 (focus ((repeat' apply And.intro) <;> first | exact trivial | (intro i _; rw [Nat.zero_add]; exact A.sim.refl _) | with_reducible exact rfl | exact fun _ _ => A.sim.refl _ | exact A.sim.refl _ | exact rfl | exact Nat.le_refl _ | omega | exact fun i _ => shift_sim _ _ i | exact fun _ _ => trivial | exact fun _ h => absurd h (Nat.not_lt_zero _) | exact ⟨rfl, rfl, rfl, rfl⟩)); (conv => whnf))
        | (refine W.go TOK 91 hΓ 1000 rfl ?_; (conv => whnf); refine ⟨?_, ?_⟩)
        | (refine D.go TOK 91 hΓ 1000 rfl ?_; (conv => whnf); refine ⟨?_, ?_⟩)
        | (refine W.drawn rfl rfl ?_; refine D.run TOK 91 hΓ 1000 ?_; (conv => whnf); refine ⟨?_, ?_⟩)
      all_goals (repeat' apply And.intro)
      all_goals try (first
        | exact trivial
        | exact rfl
        | exact fun _ _ => A.sim.refl _
        | exact A.sim.refl _
        | exact Nat.le_refl _
        | omega
        | exact fun _ _ => trivial
        | exact fun i _ => shift_sim _ _ i
        | exact fun _ h => absurd h (Nat.not_lt_zero _)
        | exact fun i _ => isInt_byteAt _ i
        | (simp only [allP, List.nil_append, List.append_nil, List.cons_append, List.append_eq, and_true, true_and, inr_i64, inr_u8, inr_u64, min_i64, max_i64, min_u64, max_u64, min_u8, max_u8, A.purePL, A.pureP, A.sureP, A.surePL, Int.toNat_natCast, Int.reduceToNat, addI, cHi, cLo, hiN, loN, subO, addO, hasIdx, cond_true, cond_false]; first | done | omega | ((repeat' apply And.intro) <;> first | exact trivial | rfl | omega | decide))
        | exact hin40.1
        | exact hin40.2
        )
  obtain ⟨hp0, hT0⟩ := hJ.out hil n
  have cp := pop_does a (by omega)
  rw [hp0] at cp
  have hlt : l.take i = l := List.take_of_length_le (by omega)
  rw [hlt] at hks ⊢
  have hwl := HP.srt_len (lt := lessS) (dues G l)
  have hdl := dues_le G l
  have hres : pickS G l n = ((HP.srt lessS (dues G l)).take n.toNat).map fun d => fnd l d.name := rfl
  rw [hres]
  clear hres ih hJ
  revert hT0 cp hwl
  generalize HP.srt lessS (dues G l) = w
  intro hT0 cp hwl
  repeat' first
    | assumption
    | exact Bool.noConfusion hb
    | exact absurd hb (by decide)
    | (exfalso; omega)
    | (refine W.makeMap (nt := 91) hΓ rfl rfl rfl rfl (nm := 699) rfl (penA default) ?_)
    | (refine W.mapLook2 TOK (nt := 91) hΓ rfl rfl rfl rfl rfl rfl rfl rfl rfl rfl ?_ ?_; (focus exact ⟨⟨trivial, trivial, trivial, trivial, ⟨trivial, trivial, trivial⟩, trivial⟩, trivial, trivial, trivial, trivial⟩))
    | (refine W.mapLook TOK (nt := 91) hΓ rfl rfl rfl rfl rfl rfl rfl rfl rfl rfl ?_ ?_; (focus exact ⟨⟨trivial, trivial, trivial, trivial, ⟨trivial, trivial, trivial⟩, trivial⟩, trivial, trivial, trivial, trivial⟩))
    | (refine W.mapSet TOK rfl rfl rfl rfl rfl rfl rfl rfl rfl rfl (pen_one _) ?_)
    | (refine W.branch rfl (fun hb => ?_) (fun hb => ?_) <;> ((try simp only [decide_eq_true_eq, decide_eq_false_iff_not, Bool.not_eq_true', Bool.not_eq_false', Int.not_lt, Int.not_le, cond_true, cond_false, reduceCtorEq, Int.toNat_natCast, Int.reduceToNat, addI] at hb); (try replace hb := of_decide_eq_true hb); (try replace hb := of_decide_eq_false hb)))
    | (refine D.branch rfl (fun hb => ?_) (fun hb => ?_) <;> ((try simp only [decide_eq_true_eq, decide_eq_false_iff_not, Bool.not_eq_true', Bool.not_eq_false', Int.not_lt, Int.not_le, cond_true, cond_false, reduceCtorEq, Int.toNat_natCast, Int.reduceToNat, addI] at hb); (try replace hb := of_decide_eq_true hb); (try replace hb := of_decide_eq_false hb)))
    | ((first | (refine D.callA (cp) rfl rfl rfl rfl hΓ rfl ?_; (conv => whnf); refine ⟨rfl, rfl, rfl, ?_, ?_, ?_, ?_⟩) | (refine W.callA (cp) rfl rfl rfl rfl hΓ rfl ?_; (conv => whnf); refine ⟨rfl, rfl, ?_, ?_, ?_, ?_⟩)); iterate 3 (focus ((repeat' apply And.intro) <;> first | exact trivial | (intro i _; rw [Nat.zero_add]; exact A.sim.refl _) | with_reducible exact rfl | exact fun _ _ => A.sim.refl _ | exact A.sim.refl _ | exact rfl | exact Nat.le_refl _ | omega | exact fun i _ => shift_sim _ _ i | exact fun _ _ => trivial | exact fun _ h => absurd h (Nat.not_lt_zero _))); (conv => whnf))
    | (refine W.go TOK 91 hΓ 1000 rfl ?_; (conv => whnf); refine ⟨?_, ?_⟩)
    | (refine D.go TOK 91 hΓ 1000 rfl ?_; (conv => whnf); refine ⟨?_, ?_⟩)
    | (refine W.drawn rfl rfl ?_; refine D.run TOK 91 hΓ 1000 ?_; (conv => whnf); refine ⟨?_, ?_⟩)
  all_goals (repeat' apply And.intro)
  all_goals try (first
    | exact trivial
    | exact rfl
    | exact fun _ _ => A.sim.refl _
    | exact A.sim.refl _
    | exact Nat.le_refl _
    | omega
    | exact fun _ _ => trivial
    | exact fun i _ => shift_sim _ _ i
    | exact fun _ h => absurd h (Nat.not_lt_zero _)
    | exact fun i _ => isInt_byteAt _ i
    | (simp only [allP, List.nil_append, List.append_nil, List.cons_append, List.append_eq, and_true, true_and, inr_i64, inr_u8, inr_u64, min_i64, max_i64, min_u64, max_u64, min_u8, max_u8, A.purePL, A.pureP, A.sureP, A.surePL, Int.toNat_natCast, Int.reduceToNat, addI, cHi, cLo, hiN, loN, subO, addO, hasIdx, cond_true, cond_false]; first | done | omega | ((repeat' apply And.intro) <;> first | exact trivial | rfl | omega | decide))
    )
  refine W.loopA (Nat × List Due) (TakeJ w n) (fun x => w.length - x.1) (fun x => [(9, .ptr 701 []), (16, .ptr 703 []), (17, .bool (dAt w x.1).2), (15, .own 9 704 0 ((w.take x.1).map fun d : Due => fnd l d.name).length)]) (fun x => [(703, some (.var (dueA (dAt w x.1).1))), (704, some (.arr 9 ((w.take x.1).map fun d : Due => fnd l d.name).length (lsA penA ((w.take x.1).map fun d : Due => fnd l d.name)))), (701, some (.var (.agg [.own 4 702 0 x.2.length]))), (702, some (.arr 4 x.2.length (lsA dueA x.2)))]) [] ((0, popR a)) (hT0) ?_
  (conv => whnf); refine ⟨?_, ?_⟩; focus ((conv => whnf); refine ⟨rfl, rfl, rfl, rfl, rfl, rfl, ?_, ?_⟩; iterate 2 (focus ((repeat' apply And.intro) <;> first | exact trivial | (intro i _; rw [Nat.zero_add]; exact A.sim.refl _) | with_reducible exact rfl | exact fun _ _ => A.sim.refl _ | exact A.sim.refl _ | exact rfl | exact Nat.le_refl _ | omega | exact fun i _ => shift_sim _ _ i | exact fun _ _ => trivial | exact fun _ h => absurd h (Nat.not_lt_zero _))))
  rintro ⟨k, b⟩ hJ ih
  have hkw : k ≤ w.length := hJ.k
  have hbl : b.length = w.length - (k + 1) := hJ.len
  have hol : ((w.take k).map fun d => fnd l d.name).length = k := by rw [List.length_map, List.length_take]; omega
  by_cases hgo : k < w.length ∧ (k : Int) < n
  · obtain ⟨hp1, hJ1⟩ := hJ.step hgo.1 hgo.2
    have cp2 := pop_does b (by omega)
    rw [hp1] at cp2
    have hd1 : dAt w k = (HP.at_ w k, true) := if_pos hgo.1
    have ih2 := ih (k + 1, popR b) hJ1 (by simp only; omega)
    have hs2 : (w.take (k + 1)).map (fun d => fnd l d.name) = (w.take k).map (fun d => fnd l d.name) ++ [fnd l (HP.at_ w k).name] := by rw [take_snoc hgo.1, List.map_append]; rfl
    simp only at ih2
    rw [hd1]
    revert ih2 hs2 hol
    generalize (w.take (k + 1)).map (fun d => fnd l d.name) = y2
    generalize (w.take k).map (fun d => fnd l d.name) = y
    intro hol ih2 hs2
    have hyy : y2.length = y.length + 1 := by rw [hs2, List.length_append]; rfl
    have hq : ∀ g : Nat → A, g 0 = penA (fnd l (HP.at_ w k).name) → ∀ m, m ≤ y.length + 1 → ∀ j, j < m → (catF y.length (lsA penA y) g j).sim (lsA penA y2 j) := fun g hg m hm => by rw [hs2]; exact ls_snoc _ rfl hg hm
    clear hs2
    repeat' first
      | assumption
      | exact Bool.noConfusion hb
      | exact absurd hb (by decide)
      | (exfalso; omega)
      | (exfalso; simp at hb; done)
      | (refine W.makeMap (nt := 91) hΓ rfl rfl rfl rfl (nm := 699) rfl (penA default) ?_)
      | (refine W.mapLook2 TOK (nt := 91) hΓ rfl rfl rfl rfl rfl rfl rfl rfl rfl rfl ?_ ?_; (focus exact ⟨⟨trivial, trivial, trivial, trivial, ⟨trivial, trivial, trivial⟩, trivial⟩, trivial, trivial, trivial, trivial⟩))
      | (refine W.mapLook TOK (nt := 91) hΓ rfl rfl rfl rfl rfl rfl rfl rfl rfl rfl ?_ ?_; (focus exact ⟨⟨trivial, trivial, trivial, trivial, ⟨trivial, trivial, trivial⟩, trivial⟩, trivial, trivial, trivial, trivial⟩))
      | (refine W.mapSet TOK rfl rfl rfl rfl rfl rfl rfl rfl rfl rfl (pen_one _) ?_)
      | (refine W.toA (ih2) ?_; rotate_left 0; (conv => whnf); refine ⟨rfl, rfl, rfl, rfl, rfl, rfl, ?_, ?_⟩; iterate 2 (focus ((repeat' apply And.intro) <;> first | exact trivial | (intro i _; rw [Nat.zero_add]; exact A.sim.refl _) | with_reducible exact rfl | exact fun _ _ => A.sim.refl _ | exact A.sim.refl _ | exact rfl | exact Nat.le_refl _ | omega | exact fun i _ => shift_sim _ _ i | exact fun _ _ => trivial | exact fun _ h => absurd h (Nat.not_lt_zero _) | exact hyy | exact hyy.symm | exact Nat.le_of_eq hyy | exact hq _ rfl _ (Nat.le_refl _) | exact hq _ rfl _ (Nat.le_of_eq hyy))))
      | (refine W.branch rfl (fun hb => ?_) (fun hb => ?_) <;> ((try simp only [decide_eq_true_eq, decide_eq_false_iff_not, Bool.not_eq_true', Bool.not_eq_false', Int.not_lt, Int.not_le, cond_true, cond_false, reduceCtorEq, Int.toNat_natCast, Int.reduceToNat, addI] at hb); (try replace hb := of_decide_eq_true hb); (try replace hb := of_decide_eq_false hb)))
      | (refine D.branch rfl (fun hb => ?_) (fun hb => ?_) <;> ((try simp only [decide_eq_true_eq, decide_eq_false_iff_not, Bool.not_eq_true', Bool.not_eq_false', Int.not_lt, Int.not_le, cond_true, cond_false, reduceCtorEq, Int.toNat_natCast, Int.reduceToNat, addI] at hb); (try replace hb := of_decide_eq_true hb); (try replace hb := of_decide_eq_false hb)))
      | ((first | (refine D.callA (cp2) rfl rfl rfl rfl hΓ rfl ?_; (conv => whnf); refine ⟨rfl, rfl, rfl, ?_, ?_, ?_, ?_⟩) | (refine W.callA (cp2) rfl rfl rfl rfl hΓ rfl ?_; (conv => whnf); refine ⟨rfl, rfl, ?_, ?_, ?_, ?_⟩)); iterate 3 (focus ((repeat' apply And.intro) <;> first | exact trivial | (intro i _; rw [Nat.zero_add]; exact A.sim.refl _) | with_reducible exact rfl | exact fun _ _ => A.sim.refl _ | exact A.sim.refl _ | exact rfl | exact Nat.le_refl _ | omega | exact fun i _ => shift_sim _ _ i | exact fun _ _ => trivial | exact fun _ h => absurd h (Nat.not_lt_zero _) | exact hyy | exact hyy.symm | exact Nat.le_of_eq hyy | exact hq _ rfl _ (Nat.le_refl _) | exact hq _ rfl _ (Nat.le_of_eq hyy))); (conv => whnf))
      | (refine W.go TOK 91 hΓ 1000 rfl ?_; (conv => whnf); refine ⟨?_, ?_⟩)
      | (refine D.go TOK 91 hΓ 1000 rfl ?_; (conv => whnf); refine ⟨?_, ?_⟩)
      | (refine W.drawn rfl rfl ?_; refine D.run TOK 91 hΓ 1000 ?_; (conv => whnf); refine ⟨?_, ?_⟩)
    all_goals (repeat' apply And.intro)
    all_goals try (first
      | exact trivial
      | exact rfl
      | exact fun _ _ => A.sim.refl _
      | exact A.sim.refl _
      | exact Nat.le_refl _
      | omega
      | exact fun _ _ => trivial
      | exact fun i _ => shift_sim _ _ i
      | exact fun _ h => absurd h (Nat.not_lt_zero _)
      | exact fun i _ => isInt_byteAt _ i
      | (simp only [allP, List.nil_append, List.append_nil, List.cons_append, List.append_eq, and_true, true_and, inr_i64, inr_u8, inr_u64, min_i64, max_i64, min_u64, max_u64, min_u8, max_u8, A.purePL, A.pureP, A.sureP, A.surePL, Int.toNat_natCast, Int.reduceToNat, addI, cHi, cLo, hiN, loN, subO, addO, hasIdx, cond_true, cond_false]; first | done | omega | ((repeat' apply And.intro) <;> first | exact trivial | rfl | omega | decide))
      | (show (y.length + 1) * 80 ≤ _; omega)
      )
  have hfin := hJ.fin hgo
  rw [hfin] at hol ⊢
  clear ih
  by_cases hk2 : k < w.length
  · have hd1 : dAt w k = (HP.at_ w k, true) := if_pos hk2
    rw [hd1]
    repeat' first
      | assumption
      | exact Bool.noConfusion hb
      | exact absurd hb (by decide)
      | (exfalso; omega)
      | (exfalso; simp at hb; done)
      | (refine W.retA TOK rfl ?_; (conv => whnf); refine ⟨rfl, rfl, rfl, rfl, rfl, rfl, ?_, ?_, ?_⟩)
      | (refine W.branch rfl (fun hb => ?_) (fun hb => ?_) <;> ((try simp only [decide_eq_true_eq, decide_eq_false_iff_not, Bool.not_eq_true', Bool.not_eq_false', Int.not_lt, Int.not_le, cond_true, cond_false, reduceCtorEq, Int.toNat_natCast, Int.reduceToNat, addI] at hb); (try replace hb := of_decide_eq_true hb); (try replace hb := of_decide_eq_false hb)))
      | (refine D.branch rfl (fun hb => ?_) (fun hb => ?_) <;> ((try simp only [decide_eq_true_eq, decide_eq_false_iff_not, Bool.not_eq_true', Bool.not_eq_false', Int.not_lt, Int.not_le, cond_true, cond_false, reduceCtorEq, Int.toNat_natCast, Int.reduceToNat, addI] at hb); (try replace hb := of_decide_eq_true hb); (try replace hb := of_decide_eq_false hb)))
      | (refine W.go TOK 91 hΓ 1000 rfl ?_; (conv => whnf); refine ⟨?_, ?_⟩)
      | (refine D.go TOK 91 hΓ 1000 rfl ?_; (conv => whnf); refine ⟨?_, ?_⟩)
      | (refine W.drawn rfl rfl ?_; refine D.run TOK 91 hΓ 1000 ?_; (conv => whnf); refine ⟨?_, ?_⟩)
    all_goals (repeat' apply And.intro)
    all_goals try (first
      | exact trivial
      | exact rfl
      | exact fun _ _ => A.sim.refl _
      | exact A.sim.refl _
      | exact Nat.le_refl _
      | omega
      | exact fun _ _ => trivial
      | exact fun i _ => shift_sim _ _ i
      | exact fun _ h => absurd h (Nat.not_lt_zero _)
      | exact fun i _ => isInt_byteAt _ i
      | (simp only [allP, List.nil_append, List.append_nil, List.cons_append, List.append_eq, and_true, true_and, inr_i64, inr_u8, inr_u64, min_i64, max_i64, min_u64, max_u64, min_u8, max_u8, A.purePL, A.pureP, A.sureP, A.surePL, Int.toNat_natCast, Int.reduceToNat, addI, cHi, cLo, hiN, loN, subO, addO, hasIdx, cond_true, cond_false]; first | done | omega | ((repeat' apply And.intro) <;> first | exact trivial | rfl | omega | decide))
      )
  · have hd1 : dAt w k = (default, false) := if_neg hk2
    rw [hd1]
    repeat' first
      | assumption
      | exact Bool.noConfusion hb
      | exact absurd hb (by decide)
      | (exfalso; omega)
      | (exfalso; simp at hb; done)
      | (refine W.retA TOK rfl ?_; (conv => whnf); refine ⟨rfl, rfl, rfl, rfl, rfl, rfl, ?_, ?_, ?_⟩)
      | (refine W.branch rfl (fun hb => ?_) (fun hb => ?_) <;> ((try simp only [decide_eq_true_eq, decide_eq_false_iff_not, Bool.not_eq_true', Bool.not_eq_false', Int.not_lt, Int.not_le, cond_true, cond_false, reduceCtorEq, Int.toNat_natCast, Int.reduceToNat, addI] at hb); (try replace hb := of_decide_eq_true hb); (try replace hb := of_decide_eq_false hb)))
      | (refine D.branch rfl (fun hb => ?_) (fun hb => ?_) <;> ((try simp only [decide_eq_true_eq, decide_eq_false_iff_not, Bool.not_eq_true', Bool.not_eq_false', Int.not_lt, Int.not_le, cond_true, cond_false, reduceCtorEq, Int.toNat_natCast, Int.reduceToNat, addI] at hb); (try replace hb := of_decide_eq_true hb); (try replace hb := of_decide_eq_false hb)))
      | (refine W.go TOK 91 hΓ 1000 rfl ?_; (conv => whnf); refine ⟨?_, ?_⟩)
      | (refine D.go TOK 91 hΓ 1000 rfl ?_; (conv => whnf); refine ⟨?_, ?_⟩)
      | (refine W.drawn rfl rfl ?_; refine D.run TOK 91 hΓ 1000 ?_; (conv => whnf); refine ⟨?_, ?_⟩)
    all_goals (repeat' apply And.intro)
    all_goals try (first
      | exact trivial
      | exact rfl
      | exact fun _ _ => A.sim.refl _
      | exact A.sim.refl _
      | exact Nat.le_refl _
      | omega
      | exact fun _ _ => trivial
      | exact fun i _ => shift_sim _ _ i
      | exact fun _ h => absurd h (Nat.not_lt_zero _)
      | exact fun i _ => isInt_byteAt _ i
      | (simp only [allP, List.nil_append, List.append_nil, List.cons_append, List.append_eq, and_true, true_and, inr_i64, inr_u8, inr_u64, min_i64, max_i64, min_u64, max_u64, min_u8, max_u8, A.purePL, A.pureP, A.sureP, A.surePL, Int.toNat_natCast, Int.reduceToNat, addI, cHi, cLo, hiN, loN, subO, addO, hasIdx, cond_true, cond_false]; first | done | omega | ((repeat' apply And.intro) <;> first | exact trivial | rfl | omega | decide))
      )

theorem picknil_does (l : List Pen) (sh : Bool) (n : Int) (h9 : l.length ≤ 1000) (ht : ∀ p ∈ l, 0 ≤ p.tick ∧ p.tick ≤ 1000000000) : Does Try.prog 13 [.ptr 1000 [], .nilp, .int .i64 n] [(1000, some (.var (.agg [.own 9 1001 0 l.length, .bool sh]))), (1001, some (.arr 9 l.length (lsA penA l)))] [1] (Is (.own 9 1 0 (pickS (fun _ => 0) l n).length) ((1, some (.arr 9 (pickS (fun _ => 0) l n).length (lsA penA (pickS (fun _ => 0) l n)))) :: [(1000, some (.var (.agg [.own 9 1001 0 l.length, .bool sh]))), (1001, some (.arr 9 l.length (lsA penA l)))])) := by
  refine Does.intro (fn := Try.f13) Try.func13 rfl rfl fun Γ hΓ => ?_
  refine W.run TOK 91 hΓ 1000 ?_
  conv => whnf
  refine ⟨?_, ?_⟩
  repeat' first
    | assumption
    | exact Bool.noConfusion hb
    | exact absurd hb (by decide)
    | (exfalso; omega)
    | (exfalso; simp at hb; done)
    | (refine W.makeMap (nt := 91) hΓ rfl rfl rfl rfl (nm := 699) rfl (penA default) ?_)
    | (refine W.mapLook2 TOK (nt := 91) hΓ rfl rfl rfl rfl rfl rfl rfl rfl rfl rfl ?_ ?_; (focus exact ⟨⟨trivial, trivial, trivial, trivial, ⟨trivial, trivial, trivial⟩, trivial⟩, trivial, trivial, trivial, trivial⟩))
    | (refine W.mapLook TOK (nt := 91) hΓ rfl rfl rfl rfl rfl rfl rfl rfl rfl rfl ?_ ?_; (focus exact ⟨⟨trivial, trivial, trivial, trivial, ⟨trivial, trivial, trivial⟩, trivial⟩, trivial, trivial, trivial, trivial⟩))
    | (refine W.mapSet TOK rfl rfl rfl rfl rfl rfl rfl rfl rfl rfl (pen_one _) ?_)
    | (refine W.branch rfl (fun hb => ?_) (fun hb => ?_) <;> ((try simp only [decide_eq_true_eq, decide_eq_false_iff_not, Bool.not_eq_true', Bool.not_eq_false', Int.not_lt, Int.not_le, cond_true, cond_false, reduceCtorEq, Int.toNat_natCast, Int.reduceToNat, addI] at hb); (try replace hb := of_decide_eq_true hb); (try replace hb := of_decide_eq_false hb)))
    | (refine D.branch rfl (fun hb => ?_) (fun hb => ?_) <;> ((try simp only [decide_eq_true_eq, decide_eq_false_iff_not, Bool.not_eq_true', Bool.not_eq_false', Int.not_lt, Int.not_le, cond_true, cond_false, reduceCtorEq, Int.toNat_natCast, Int.reduceToNat, addI] at hb); (try replace hb := of_decide_eq_true hb); (try replace hb := of_decide_eq_false hb)))
    | ((first | (refine D.callA (new_does) rfl rfl rfl rfl hΓ rfl ?_; (conv => whnf); refine ⟨rfl, rfl, rfl, ?_, ?_, ?_, ?_⟩) | (refine W.callA (new_does) rfl rfl rfl rfl hΓ rfl ?_; (conv => whnf); refine ⟨rfl, rfl, ?_, ?_, ?_, ?_⟩)); iterate 3 (focus ((repeat' apply And.intro) <;> first | exact trivial | (intro i _; rw [Nat.zero_add]; exact A.sim.refl _) | with_reducible exact rfl | exact fun _ _ => A.sim.refl _ | exact A.sim.refl _ | exact rfl | exact Nat.le_refl _ | omega | exact fun i _ => shift_sim _ _ i | exact fun _ _ => trivial | exact fun _ h => absurd h (Nat.not_lt_zero _))); (conv => whnf))
    | ((first | (refine D.callA (hnew_does) rfl rfl rfl rfl hΓ rfl ?_; (conv => whnf); refine ⟨rfl, rfl, rfl, ?_, ?_, ?_, ?_⟩) | (refine W.callA (hnew_does) rfl rfl rfl rfl hΓ rfl ?_; (conv => whnf); refine ⟨rfl, rfl, ?_, ?_, ?_, ?_⟩)); iterate 3 (focus ((repeat' apply And.intro) <;> first | exact trivial | (intro i _; rw [Nat.zero_add]; exact A.sim.refl _) | with_reducible exact rfl | exact fun _ _ => A.sim.refl _ | exact A.sim.refl _ | exact rfl | exact Nat.le_refl _ | omega | exact fun i _ => shift_sim _ _ i | exact fun _ _ => trivial | exact fun _ h => absurd h (Nat.not_lt_zero _))); (conv => whnf))
    | (refine W.go TOK 91 hΓ 1000 rfl ?_; (conv => whnf); refine ⟨?_, ?_⟩)
    | (refine D.go TOK 91 hΓ 1000 rfl ?_; (conv => whnf); refine ⟨?_, ?_⟩)
    | (refine W.drawn rfl rfl ?_; refine D.run TOK 91 hΓ 1000 ?_; (conv => whnf); refine ⟨?_, ?_⟩)
  all_goals (repeat' apply And.intro)
  all_goals try (first
    | exact trivial
    | exact rfl
    | exact fun _ _ => A.sim.refl _
    | exact A.sim.refl _
    | exact Nat.le_refl _
    | omega
    | exact fun _ _ => trivial
    | exact fun i _ => shift_sim _ _ i
    | exact fun _ h => absurd h (Nat.not_lt_zero _)
    | exact fun i _ => isInt_byteAt _ i
    | (simp only [allP, List.nil_append, List.append_nil, List.cons_append, List.append_eq, and_true, true_and, inr_i64, inr_u8, inr_u64, min_i64, max_i64, min_u64, max_u64, min_u8, max_u8, A.purePL, A.pureP, A.sureP, A.surePL, Int.toNat_natCast, Int.reduceToNat, addI, cHi, cLo, hiN, loN, subO, addO, hasIdx, cond_true, cond_false]; first | done | omega | ((repeat' apply And.intro) <;> first | exact trivial | rfl | omega | decide))
    )
  refine W.loopA (Nat × List Due × List (List UInt8)) (FillJ (fun _ => 0) l) (fun x => l.length - x.1) (fun x => [(8, .map 699), (9, .ptr 701 []), (30, .int .i64 (x.1 : Nat))]) (fun x => [(699, some (.smap (penA default) x.2.2 fun s => penA (fnd (l.take x.1) s))), (701, some (.var (.agg [.own 4 702 0 x.2.1.length]))), (702, some (.arr 4 x.2.1.length (lsA dueA x.2.1)))]) [] ((0, [], [])) (⟨Nat.zero_le _, rfl, Nat.le_refl _, fun k hk0 hk => absurd hk (Nat.not_lt_zero _), List.Perm.refl _⟩) ?_
  (conv => whnf); refine ⟨?_, ?_⟩; focus ((conv => whnf); refine ⟨rfl, rfl, rfl, rfl, rfl, rfl, ?_, ?_⟩; iterate 2 (focus ((repeat' apply And.intro) <;> first | exact trivial | (intro i _; rw [Nat.zero_add]; exact A.sim.refl _) | with_reducible exact rfl | exact fun _ _ => A.sim.refl _ | exact A.sim.refl _ | exact rfl | exact Nat.le_refl _ | omega | exact fun i _ => shift_sim _ _ i | exact fun _ _ => trivial | exact fun _ h => absurd h (Nat.not_lt_zero _))))
  rintro ⟨i, a, ks⟩ hJ ih
  have hi : i ≤ l.length := hJ.i
  have hks : ks = (frs (l.take i)).map (·.u.name) := hJ.ks
  have hal : a.length ≤ i := hJ.len
  by_cases hil : i < l.length
  · have hmem : (HP.at_ l i).u.name ∈ ks ↔ (HP.at_ l i).u.name ∈ (l.take i).map (·.u.name) := by rw [hks]; exact frs_names _ _
    by_cases hm : (HP.at_ l i).u.name ∈ ks
    · have ih2 := ih (i + 1, a, ks) (hJ.old hil (hmem.1 hm)) (by simp only; omega)
      simp only at ih2
      rw [take_snoc hil, fnd_old (hmem.1 hm)] at ih2
      have hd : decide ((HP.at_ l i).u.name ∈ ks) = true := decide_eq_true hm
      repeat' first
        | assumption
        | exact Bool.noConfusion hb
        | exact absurd hb (by decide)
        | (exfalso; omega)
        | exact absurd hm hb
        | (refine W.makeMap (nt := 91) hΓ rfl rfl rfl rfl (nm := 699) rfl (penA default) ?_)
        | (refine W.mapLook2 TOK (nt := 91) hΓ rfl rfl rfl rfl rfl rfl rfl rfl rfl rfl ?_ ?_; (focus exact ⟨⟨trivial, trivial, trivial, trivial, ⟨trivial, trivial, trivial⟩, trivial⟩, trivial, trivial, trivial, trivial⟩))
        | (refine W.mapLook TOK (nt := 91) hΓ rfl rfl rfl rfl rfl rfl rfl rfl rfl rfl ?_ ?_; (focus exact ⟨⟨trivial, trivial, trivial, trivial, ⟨trivial, trivial, trivial⟩, trivial⟩, trivial, trivial, trivial, trivial⟩))
        | (refine W.mapSet TOK rfl rfl rfl rfl rfl rfl rfl rfl rfl rfl (pen_one _) ?_)
        | (refine W.toA (ih2) ?_; rotate_left 0; (conv => whnf); refine ⟨rfl, rfl, rfl, rfl, rfl, rfl, ?_, ?_⟩; iterate 2 (focus ((repeat' apply And.intro) <;> first | exact trivial | (intro i _; rw [Nat.zero_add]; exact A.sim.refl _) | with_reducible exact rfl | exact fun _ _ => A.sim.refl _ | exact A.sim.refl _ | exact rfl | exact Nat.le_refl _ | omega | exact fun i _ => shift_sim _ _ i | exact fun _ _ => trivial | exact fun _ h => absurd h (Nat.not_lt_zero _))))
        | (refine W.branch rfl (fun hb => ?_) (fun hb => ?_) <;> ((try simp only [decide_eq_true_eq, decide_eq_false_iff_not, Bool.not_eq_true', Bool.not_eq_false', Int.not_lt, Int.not_le, cond_true, cond_false, reduceCtorEq, Int.toNat_natCast, Int.reduceToNat, addI] at hb); (try replace hb := of_decide_eq_true hb); (try replace hb := of_decide_eq_false hb)))
        | (refine D.branch rfl (fun hb => ?_) (fun hb => ?_) <;> ((try simp only [decide_eq_true_eq, decide_eq_false_iff_not, Bool.not_eq_true', Bool.not_eq_false', Int.not_lt, Int.not_le, cond_true, cond_false, reduceCtorEq, Int.toNat_natCast, Int.reduceToNat, addI] at hb); (try replace hb := of_decide_eq_true hb); (try replace hb := of_decide_eq_false hb)))
        | (refine W.go TOK 91 hΓ 1000 rfl ?_; (conv => whnf); refine ⟨?_, ?_⟩)
        | (refine D.go TOK 91 hΓ 1000 rfl ?_; (conv => whnf); refine ⟨?_, ?_⟩)
        | (refine W.drawn rfl rfl ?_; refine D.run TOK 91 hΓ 1000 ?_; (conv => whnf); refine ⟨?_, ?_⟩)
      all_goals (repeat' apply And.intro)
      all_goals try (first
        | exact trivial
        | exact rfl
        | exact fun _ _ => A.sim.refl _
        | exact A.sim.refl _
        | exact Nat.le_refl _
        | omega
        | exact fun _ _ => trivial
        | exact fun i _ => shift_sim _ _ i
        | exact fun _ h => absurd h (Nat.not_lt_zero _)
        | exact fun i _ => isInt_byteAt _ i
        | (simp only [allP, List.nil_append, List.append_nil, List.cons_append, List.append_eq, and_true, true_and, inr_i64, inr_u8, inr_u64, min_i64, max_i64, min_u64, max_u64, min_u8, max_u8, A.purePL, A.pureP, A.sureP, A.surePL, Int.toNat_natCast, Int.reduceToNat, addI, cHi, cLo, hiN, loN, subO, addO, hasIdx, cond_true, cond_false]; first | done | omega | ((repeat' apply And.intro) <;> first | exact trivial | rfl | omega | decide))
        )
    have hm2 := fun e => hm (hmem.2 e)
    have hin : insK (HP.at_ l i).u.name ks = ks ++ [(HP.at_ l i).u.name] := if_neg hm
    have hfn := fnd_new hm2
    rw [← take_snoc hil] at hfn
    have htk := ht _ (HP.at_mem hil)
    have hin40 : inr .i64 ((HP.at_ l i).tick + 40) := inr_i64.2 (by omega)
    cases hsy : (HP.at_ l i).syn with
    | false =>
      have ih2 := ih (i + 1, a, ks ++ [(HP.at_ l i).u.name]) (hJ.no hil hm2 hsy) (by simp only; omega)
      simp only at ih2
      rw [hfn, ← hin] at ih2
      repeat' first
        | assumption
        | exact Bool.noConfusion hb
        | exact absurd hb (by decide)
        | (exfalso; omega)
        | exact absurd hb hm
        | exact absurd (hsy.symm.trans hb) (by decide)
        | (refine W.makeMap (nt := 91) hΓ rfl rfl rfl rfl (nm := 699) rfl (penA default) ?_)
        | (refine W.mapLook2 TOK (nt := 91) hΓ rfl rfl rfl rfl rfl rfl rfl rfl rfl rfl ?_ ?_; (focus exact ⟨⟨trivial, trivial, trivial, trivial, ⟨trivial, trivial, trivial⟩, trivial⟩, trivial, trivial, trivial, trivial⟩))
        | (refine W.mapLook TOK (nt := 91) hΓ rfl rfl rfl rfl rfl rfl rfl rfl rfl rfl ?_ ?_; (focus exact ⟨⟨trivial, trivial, trivial, trivial, ⟨trivial, trivial, trivial⟩, trivial⟩, trivial, trivial, trivial, trivial⟩))
        | (refine W.mapSet TOK rfl rfl rfl rfl rfl rfl rfl rfl rfl rfl (pen_one _) ?_)
        | (refine W.toA (ih2) ?_; rotate_left 0; (conv => whnf); refine ⟨rfl, rfl, rfl, rfl, rfl, rfl, ?_, ?_⟩; iterate 2 (focus ((repeat' apply And.intro) <;> first | exact trivial | (intro i _; rw [Nat.zero_add]; exact A.sim.refl _) | with_reducible exact rfl | exact fun _ _ => A.sim.refl _ | exact A.sim.refl _ | exact rfl | exact Nat.le_refl _ | omega | exact fun i _ => shift_sim _ _ i | exact fun _ _ => trivial | exact fun _ h => absurd h (Nat.not_lt_zero _))))
        | (refine W.branch rfl (fun hb => ?_) (fun hb => ?_) <;> ((try simp only [decide_eq_true_eq, decide_eq_false_iff_not, Bool.not_eq_true', Bool.not_eq_false', Int.not_lt, Int.not_le, cond_true, cond_false, reduceCtorEq, Int.toNat_natCast, Int.reduceToNat, addI] at hb); (try replace hb := of_decide_eq_true hb); (try replace hb := of_decide_eq_false hb)))
        | (refine D.branch rfl (fun hb => ?_) (fun hb => ?_) <;> ((try simp only [decide_eq_true_eq, decide_eq_false_iff_not, Bool.not_eq_true', Bool.not_eq_false', Int.not_lt, Int.not_le, cond_true, cond_false, reduceCtorEq, Int.toNat_natCast, Int.reduceToNat, addI] at hb); (try replace hb := of_decide_eq_true hb); (try replace hb := of_decide_eq_false hb)))
        | (refine W.go TOK 91 hΓ 1000 rfl ?_; (conv => whnf); refine ⟨?_, ?_⟩)
        | (refine D.go TOK 91 hΓ 1000 rfl ?_; (conv => whnf); refine ⟨?_, ?_⟩)
        | (refine W.drawn rfl rfl ?_; refine D.run TOK 91 hΓ 1000 ?_; (conv => whnf); refine ⟨?_, ?_⟩)
      all_goals (repeat' apply And.intro)
      all_goals try (first
        | exact trivial
        | exact rfl
        | exact fun _ _ => A.sim.refl _
        | exact A.sim.refl _
        | exact Nat.le_refl _
        | omega
        | exact fun _ _ => trivial
        | exact fun i _ => shift_sim _ _ i
        | exact fun _ h => absurd h (Nat.not_lt_zero _)
        | exact fun i _ => isInt_byteAt _ i
        | (simp only [allP, List.nil_append, List.append_nil, List.cons_append, List.append_eq, and_true, true_and, inr_i64, inr_u8, inr_u64, min_i64, max_i64, min_u64, max_u64, min_u8, max_u8, A.purePL, A.pureP, A.sureP, A.surePL, Int.toNat_natCast, Int.reduceToNat, addI, cHi, cLo, hiN, loN, subO, addO, hasIdx, cond_true, cond_false]; first | done | omega | ((repeat' apply And.intro) <;> first | exact trivial | rfl | omega | decide))
        )
    | true =>
      have ih2 := ih (i + 1, HP.pushS lessS a (dueOf (fun _ => 0) (HP.at_ l i)), ks ++ [(HP.at_ l i).u.name]) (hJ.yes hil hm2 hsy) (by simp only; omega)
      simp only at ih2
      rw [hfn, ← hin] at ih2
      have cs := served_does (HP.at_ l i).u.name [] (fun _ => 0)
      have cp := push_does a (dueOf (fun _ => 0) (HP.at_ l i)) (by omega)
      repeat' first
        | assumption
        | exact Bool.noConfusion hb
        | exact absurd hb (by decide)
        | (exfalso; omega)
        | exact absurd hb hm
        | exact absurd (hsy.symm.trans hb) (by decide)
        | (refine W.makeMap (nt := 91) hΓ rfl rfl rfl rfl (nm := 699) rfl (penA default) ?_)
        | (refine W.mapLook2 TOK (nt := 91) hΓ rfl rfl rfl rfl rfl rfl rfl rfl rfl rfl ?_ ?_; (focus exact ⟨⟨trivial, trivial, trivial, trivial, ⟨trivial, trivial, trivial⟩, trivial⟩, trivial, trivial, trivial, trivial⟩))
        | (refine W.mapLook TOK (nt := 91) hΓ rfl rfl rfl rfl rfl rfl rfl rfl rfl rfl ?_ ?_; (focus exact ⟨⟨trivial, trivial, trivial, trivial, ⟨trivial, trivial, trivial⟩, trivial⟩, trivial, trivial, trivial, trivial⟩))
        | (refine W.mapSet TOK rfl rfl rfl rfl rfl rfl rfl rfl rfl rfl (pen_one _) ?_)
        | (refine W.toA (ih2) ?_; rotate_left 0; (conv => whnf); refine ⟨rfl, rfl, rfl, rfl, rfl, rfl, ?_, ?_⟩; iterate 2 (focus ((repeat' apply And.intro) <;> first | exact trivial | (intro i _; rw [Nat.zero_add]; exact A.sim.refl _) | with_reducible exact rfl | exact fun _ _ => A.sim.refl _ | exact A.sim.refl _ | exact rfl | exact Nat.le_refl _ | omega | exact fun i _ => shift_sim _ _ i | exact fun _ _ => trivial | exact fun _ h => absurd h (Nat.not_lt_zero _) | exact ⟨rfl, rfl, rfl, rfl⟩)))
        | (refine W.branch rfl (fun hb => ?_) (fun hb => ?_) <;> ((try simp only [decide_eq_true_eq, decide_eq_false_iff_not, Bool.not_eq_true', Bool.not_eq_false', Int.not_lt, Int.not_le, cond_true, cond_false, reduceCtorEq, Int.toNat_natCast, Int.reduceToNat, addI] at hb); (try replace hb := of_decide_eq_true hb); (try replace hb := of_decide_eq_false hb)))
        | (refine D.branch rfl (fun hb => ?_) (fun hb => ?_) <;> ((try simp only [decide_eq_true_eq, decide_eq_false_iff_not, Bool.not_eq_true', Bool.not_eq_false', Int.not_lt, Int.not_le, cond_true, cond_false, reduceCtorEq, Int.toNat_natCast, Int.reduceToNat, addI] at hb); (try replace hb := of_decide_eq_true hb); (try replace hb := of_decide_eq_false hb)))
        | (refine D.callAR (cs) rfl rfl rfl rfl hΓ rfl ?_; (conv => whnf); refine ⟨rfl, rfl, rfl, rfl, ?_, ?_, ?_, ?_, ?_⟩; iterate 4 (focus ((repeat' apply And.intro) <;> first | exact trivial | (intro i _; rw [Nat.zero_add]; exact A.sim.refl _) | with_reducible exact rfl | exact fun _ _ => A.sim.refl _ | exact A.sim.refl _ | exact rfl | exact Nat.le_refl _ | omega | exact fun i _ => shift_sim _ _ i | exact fun _ _ => trivial | exact fun _ h => absurd h (Nat.not_lt_zero _) | exact ⟨rfl, rfl, rfl, rfl⟩)); (conv => whnf))
        | (refine W.callA (cs) rfl rfl rfl rfl hΓ rfl ?_; (conv => whnf); refine ⟨rfl, rfl, ?_, ?_, ?_, ?_⟩; iterate 3 (focus ((repeat' apply And.intro) <;> first | exact trivial | (intro i _; rw [Nat.zero_add]; exact A.sim.refl _) | with_reducible exact rfl | exact fun _ _ => A.sim.refl _ | exact A.sim.refl _ | exact rfl | exact Nat.le_refl _ | omega | exact fun i _ => shift_sim _ _ i | exact fun _ _ => trivial | exact fun _ h => absurd h (Nat.not_lt_zero _) | exact ⟨rfl, rfl, rfl, rfl⟩)); (conv => whnf))
        | ((first | (refine D.callA (cp) rfl rfl rfl rfl hΓ rfl ?_; (conv => whnf); refine ⟨rfl, rfl, rfl, ?_, ?_, ?_, ?_⟩) | (refine W.callA (cp) rfl rfl rfl rfl hΓ rfl ?_; (conv => whnf); refine ⟨rfl, rfl, ?_, ?_, ?_, ?_⟩)); iterate 3 (focus ((repeat' apply And.intro) <;> first | exact trivial | (intro i _; rw [Nat.zero_add]; exact A.sim.refl _) | with_reducible exact rfl | exact fun _ _ => A.sim.refl _ | exact A.sim.refl _ | exact rfl | exact Nat.le_refl _ | omega | exact fun i _ => shift_sim _ _ i | exact fun _ _ => trivial | exact fun _ h => absurd h (Nat.not_lt_zero _) | exact ⟨rfl, rfl, rfl, rfl⟩)); (conv => whnf))
        | (refine W.go TOK 91 hΓ 1000 rfl ?_; (conv => whnf); refine ⟨?_, ?_⟩)
        | (refine D.go TOK 91 hΓ 1000 rfl ?_; (conv => whnf); refine ⟨?_, ?_⟩)
        | (refine W.drawn rfl rfl ?_; refine D.run TOK 91 hΓ 1000 ?_; (conv => whnf); refine ⟨?_, ?_⟩)
      all_goals (repeat' apply And.intro)
      all_goals try (first
        | exact trivial
        | exact rfl
        | exact fun _ _ => A.sim.refl _
        | exact A.sim.refl _
        | exact Nat.le_refl _
        | omega
        | exact fun _ _ => trivial
        | exact fun i _ => shift_sim _ _ i
        | exact fun _ h => absurd h (Nat.not_lt_zero _)
        | exact fun i _ => isInt_byteAt _ i
        | (simp only [allP, List.nil_append, List.append_nil, List.cons_append, List.append_eq, and_true, true_and, inr_i64, inr_u8, inr_u64, min_i64, max_i64, min_u64, max_u64, min_u8, max_u8, A.purePL, A.pureP, A.sureP, A.surePL, Int.toNat_natCast, Int.reduceToNat, addI, cHi, cLo, hiN, loN, subO, addO, hasIdx, cond_true, cond_false]; first | done | omega | ((repeat' apply And.intro) <;> first | exact trivial | rfl | omega | decide))
        | exact hin40.1
        | exact hin40.2
        )
  obtain ⟨hp0, hT0⟩ := hJ.out hil n
  have cp := pop_does a (by omega)
  rw [hp0] at cp
  have hlt : l.take i = l := List.take_of_length_le (by omega)
  rw [hlt] at hks ⊢
  have hwl := HP.srt_len (lt := lessS) (dues (fun _ => 0) l)
  have hdl := dues_le (fun _ => 0) l
  have hres : pickS (fun _ => 0) l n = ((HP.srt lessS (dues (fun _ => 0) l)).take n.toNat).map fun d => fnd l d.name := rfl
  rw [hres]
  clear hres ih hJ
  revert hT0 cp hwl
  generalize HP.srt lessS (dues (fun _ => 0) l) = w
  intro hT0 cp hwl
  repeat' first
    | assumption
    | exact Bool.noConfusion hb
    | exact absurd hb (by decide)
    | (exfalso; omega)
    | (refine W.makeMap (nt := 91) hΓ rfl rfl rfl rfl (nm := 699) rfl (penA default) ?_)
    | (refine W.mapLook2 TOK (nt := 91) hΓ rfl rfl rfl rfl rfl rfl rfl rfl rfl rfl ?_ ?_; (focus exact ⟨⟨trivial, trivial, trivial, trivial, ⟨trivial, trivial, trivial⟩, trivial⟩, trivial, trivial, trivial, trivial⟩))
    | (refine W.mapLook TOK (nt := 91) hΓ rfl rfl rfl rfl rfl rfl rfl rfl rfl rfl ?_ ?_; (focus exact ⟨⟨trivial, trivial, trivial, trivial, ⟨trivial, trivial, trivial⟩, trivial⟩, trivial, trivial, trivial, trivial⟩))
    | (refine W.mapSet TOK rfl rfl rfl rfl rfl rfl rfl rfl rfl rfl (pen_one _) ?_)
    | (refine W.branch rfl (fun hb => ?_) (fun hb => ?_) <;> ((try simp only [decide_eq_true_eq, decide_eq_false_iff_not, Bool.not_eq_true', Bool.not_eq_false', Int.not_lt, Int.not_le, cond_true, cond_false, reduceCtorEq, Int.toNat_natCast, Int.reduceToNat, addI] at hb); (try replace hb := of_decide_eq_true hb); (try replace hb := of_decide_eq_false hb)))
    | (refine D.branch rfl (fun hb => ?_) (fun hb => ?_) <;> ((try simp only [decide_eq_true_eq, decide_eq_false_iff_not, Bool.not_eq_true', Bool.not_eq_false', Int.not_lt, Int.not_le, cond_true, cond_false, reduceCtorEq, Int.toNat_natCast, Int.reduceToNat, addI] at hb); (try replace hb := of_decide_eq_true hb); (try replace hb := of_decide_eq_false hb)))
    | ((first | (refine D.callA (cp) rfl rfl rfl rfl hΓ rfl ?_; (conv => whnf); refine ⟨rfl, rfl, rfl, ?_, ?_, ?_, ?_⟩) | (refine W.callA (cp) rfl rfl rfl rfl hΓ rfl ?_; (conv => whnf); refine ⟨rfl, rfl, ?_, ?_, ?_, ?_⟩)); iterate 3 (focus ((repeat' apply And.intro) <;> first | exact trivial | (intro i _; rw [Nat.zero_add]; exact A.sim.refl _) | with_reducible exact rfl | exact fun _ _ => A.sim.refl _ | exact A.sim.refl _ | exact rfl | exact Nat.le_refl _ | omega | exact fun i _ => shift_sim _ _ i | exact fun _ _ => trivial | exact fun _ h => absurd h (Nat.not_lt_zero _))); (conv => whnf))
    | (refine W.go TOK 91 hΓ 1000 rfl ?_; (conv => whnf); refine ⟨?_, ?_⟩)
    | (refine D.go TOK 91 hΓ 1000 rfl ?_; (conv => whnf); refine ⟨?_, ?_⟩)
    | (refine W.drawn rfl rfl ?_; refine D.run TOK 91 hΓ 1000 ?_; (conv => whnf); refine ⟨?_, ?_⟩)
  all_goals (repeat' apply And.intro)
  all_goals try (first
    | exact trivial
    | exact rfl
    | exact fun _ _ => A.sim.refl _
    | exact A.sim.refl _
    | exact Nat.le_refl _
    | omega
    | exact fun _ _ => trivial
    | exact fun i _ => shift_sim _ _ i
    | exact fun _ h => absurd h (Nat.not_lt_zero _)
    | exact fun i _ => isInt_byteAt _ i
    | (simp only [allP, List.nil_append, List.append_nil, List.cons_append, List.append_eq, and_true, true_and, inr_i64, inr_u8, inr_u64, min_i64, max_i64, min_u64, max_u64, min_u8, max_u8, A.purePL, A.pureP, A.sureP, A.surePL, Int.toNat_natCast, Int.reduceToNat, addI, cHi, cLo, hiN, loN, subO, addO, hasIdx, cond_true, cond_false]; first | done | omega | ((repeat' apply And.intro) <;> first | exact trivial | rfl | omega | decide))
    )
  refine W.loopA (Nat × List Due) (TakeJ w n) (fun x => w.length - x.1) (fun x => [(9, .ptr 701 []), (16, .ptr 703 []), (17, .bool (dAt w x.1).2), (15, .own 9 704 0 ((w.take x.1).map fun d : Due => fnd l d.name).length)]) (fun x => [(703, some (.var (dueA (dAt w x.1).1))), (704, some (.arr 9 ((w.take x.1).map fun d : Due => fnd l d.name).length (lsA penA ((w.take x.1).map fun d : Due => fnd l d.name)))), (701, some (.var (.agg [.own 4 702 0 x.2.length]))), (702, some (.arr 4 x.2.length (lsA dueA x.2)))]) [] ((0, popR a)) (hT0) ?_
  (conv => whnf); refine ⟨?_, ?_⟩; focus ((conv => whnf); refine ⟨rfl, rfl, rfl, rfl, rfl, rfl, ?_, ?_⟩; iterate 2 (focus ((repeat' apply And.intro) <;> first | exact trivial | (intro i _; rw [Nat.zero_add]; exact A.sim.refl _) | with_reducible exact rfl | exact fun _ _ => A.sim.refl _ | exact A.sim.refl _ | exact rfl | exact Nat.le_refl _ | omega | exact fun i _ => shift_sim _ _ i | exact fun _ _ => trivial | exact fun _ h => absurd h (Nat.not_lt_zero _))))
  rintro ⟨k, b⟩ hJ ih
  have hkw : k ≤ w.length := hJ.k
  have hbl : b.length = w.length - (k + 1) := hJ.len
  have hol : ((w.take k).map fun d => fnd l d.name).length = k := by rw [List.length_map, List.length_take]; omega
  by_cases hgo : k < w.length ∧ (k : Int) < n
  · obtain ⟨hp1, hJ1⟩ := hJ.step hgo.1 hgo.2
    have cp2 := pop_does b (by omega)
    rw [hp1] at cp2
    have hd1 : dAt w k = (HP.at_ w k, true) := if_pos hgo.1
    have ih2 := ih (k + 1, popR b) hJ1 (by simp only; omega)
    have hs2 : (w.take (k + 1)).map (fun d => fnd l d.name) = (w.take k).map (fun d => fnd l d.name) ++ [fnd l (HP.at_ w k).name] := by rw [take_snoc hgo.1, List.map_append]; rfl
    simp only at ih2
    rw [hd1]
    revert ih2 hs2 hol
    generalize (w.take (k + 1)).map (fun d => fnd l d.name) = y2
    generalize (w.take k).map (fun d => fnd l d.name) = y
    intro hol ih2 hs2
    have hyy : y2.length = y.length + 1 := by rw [hs2, List.length_append]; rfl
    have hq : ∀ g : Nat → A, g 0 = penA (fnd l (HP.at_ w k).name) → ∀ m, m ≤ y.length + 1 → ∀ j, j < m → (catF y.length (lsA penA y) g j).sim (lsA penA y2 j) := fun g hg m hm => by rw [hs2]; exact ls_snoc _ rfl hg hm
    clear hs2
    repeat' first
      | assumption
      | exact Bool.noConfusion hb
      | exact absurd hb (by decide)
      | (exfalso; omega)
      | (exfalso; simp at hb; done)
      | (refine W.makeMap (nt := 91) hΓ rfl rfl rfl rfl (nm := 699) rfl (penA default) ?_)
      | (refine W.mapLook2 TOK (nt := 91) hΓ rfl rfl rfl rfl rfl rfl rfl rfl rfl rfl ?_ ?_; (focus exact ⟨⟨trivial, trivial, trivial, trivial, ⟨trivial, trivial, trivial⟩, trivial⟩, trivial, trivial, trivial, trivial⟩))
      | (refine W.mapLook TOK (nt := 91) hΓ rfl rfl rfl rfl rfl rfl rfl rfl rfl rfl ?_ ?_; (focus exact ⟨⟨trivial, trivial, trivial, trivial, ⟨trivial, trivial, trivial⟩, trivial⟩, trivial, trivial, trivial, trivial⟩))
      | (refine W.mapSet TOK rfl rfl rfl rfl rfl rfl rfl rfl rfl rfl (pen_one _) ?_)
      | (refine W.toA (ih2) ?_; rotate_left 0; (conv => whnf); refine ⟨rfl, rfl, rfl, rfl, rfl, rfl, ?_, ?_⟩; iterate 2 (focus ((repeat' apply And.intro) <;> first | exact trivial | (intro i _; rw [Nat.zero_add]; exact A.sim.refl _) | with_reducible exact rfl | exact fun _ _ => A.sim.refl _ | exact A.sim.refl _ | exact rfl | exact Nat.le_refl _ | omega | exact fun i _ => shift_sim _ _ i | exact fun _ _ => trivial | exact fun _ h => absurd h (Nat.not_lt_zero _) | exact hyy | exact hyy.symm | exact Nat.le_of_eq hyy | exact hq _ rfl _ (Nat.le_refl _) | exact hq _ rfl _ (Nat.le_of_eq hyy))))
      | (refine W.branch rfl (fun hb => ?_) (fun hb => ?_) <;> ((try simp only [decide_eq_true_eq, decide_eq_false_iff_not, Bool.not_eq_true', Bool.not_eq_false', Int.not_lt, Int.not_le, cond_true, cond_false, reduceCtorEq, Int.toNat_natCast, Int.reduceToNat, addI] at hb); (try replace hb := of_decide_eq_true hb); (try replace hb := of_decide_eq_false hb)))
      | (refine D.branch rfl (fun hb => ?_) (fun hb => ?_) <;> ((try simp only [decide_eq_true_eq, decide_eq_false_iff_not, Bool.not_eq_true', Bool.not_eq_false', Int.not_lt, Int.not_le, cond_true, cond_false, reduceCtorEq, Int.toNat_natCast, Int.reduceToNat, addI] at hb); (try replace hb := of_decide_eq_true hb); (try replace hb := of_decide_eq_false hb)))
      | ((first | (refine D.callA (cp2) rfl rfl rfl rfl hΓ rfl ?_; (conv => whnf); refine ⟨rfl, rfl, rfl, ?_, ?_, ?_, ?_⟩) | (refine W.callA (cp2) rfl rfl rfl rfl hΓ rfl ?_; (conv => whnf); refine ⟨rfl, rfl, ?_, ?_, ?_, ?_⟩)); iterate 3 (focus ((repeat' apply And.intro) <;> first | exact trivial | (intro i _; rw [Nat.zero_add]; exact A.sim.refl _) | with_reducible exact rfl | exact fun _ _ => A.sim.refl _ | exact A.sim.refl _ | exact rfl | exact Nat.le_refl _ | omega | exact fun i _ => shift_sim _ _ i | exact fun _ _ => trivial | exact fun _ h => absurd h (Nat.not_lt_zero _) | exact hyy | exact hyy.symm | exact Nat.le_of_eq hyy | exact hq _ rfl _ (Nat.le_refl _) | exact hq _ rfl _ (Nat.le_of_eq hyy))); (conv => whnf))
      | (refine W.go TOK 91 hΓ 1000 rfl ?_; (conv => whnf); refine ⟨?_, ?_⟩)
      | (refine D.go TOK 91 hΓ 1000 rfl ?_; (conv => whnf); refine ⟨?_, ?_⟩)
      | (refine W.drawn rfl rfl ?_; refine D.run TOK 91 hΓ 1000 ?_; (conv => whnf); refine ⟨?_, ?_⟩)
    all_goals (repeat' apply And.intro)
    all_goals try (first
      | exact trivial
      | exact rfl
      | exact fun _ _ => A.sim.refl _
      | exact A.sim.refl _
      | exact Nat.le_refl _
      | omega
      | exact fun _ _ => trivial
      | exact fun i _ => shift_sim _ _ i
      | exact fun _ h => absurd h (Nat.not_lt_zero _)
      | exact fun i _ => isInt_byteAt _ i
      | (simp only [allP, List.nil_append, List.append_nil, List.cons_append, List.append_eq, and_true, true_and, inr_i64, inr_u8, inr_u64, min_i64, max_i64, min_u64, max_u64, min_u8, max_u8, A.purePL, A.pureP, A.sureP, A.surePL, Int.toNat_natCast, Int.reduceToNat, addI, cHi, cLo, hiN, loN, subO, addO, hasIdx, cond_true, cond_false]; first | done | omega | ((repeat' apply And.intro) <;> first | exact trivial | rfl | omega | decide))
      | (show (y.length + 1) * 80 ≤ _; omega)
      )
  have hfin := hJ.fin hgo
  rw [hfin] at hol ⊢
  clear ih
  by_cases hk2 : k < w.length
  · have hd1 : dAt w k = (HP.at_ w k, true) := if_pos hk2
    rw [hd1]
    repeat' first
      | assumption
      | exact Bool.noConfusion hb
      | exact absurd hb (by decide)
      | (exfalso; omega)
      | (exfalso; simp at hb; done)
      | (refine W.retA TOK rfl ?_; (conv => whnf); refine ⟨rfl, rfl, rfl, rfl, rfl, rfl, ?_, ?_, ?_⟩)
      | (refine W.branch rfl (fun hb => ?_) (fun hb => ?_) <;> ((try simp only [decide_eq_true_eq, decide_eq_false_iff_not, Bool.not_eq_true', Bool.not_eq_false', Int.not_lt, Int.not_le, cond_true, cond_false, reduceCtorEq, Int.toNat_natCast, Int.reduceToNat, addI] at hb); (try replace hb := of_decide_eq_true hb); (try replace hb := of_decide_eq_false hb)))
      | (refine D.branch rfl (fun hb => ?_) (fun hb => ?_) <;> ((try simp only [decide_eq_true_eq, decide_eq_false_iff_not, Bool.not_eq_true', Bool.not_eq_false', Int.not_lt, Int.not_le, cond_true, cond_false, reduceCtorEq, Int.toNat_natCast, Int.reduceToNat, addI] at hb); (try replace hb := of_decide_eq_true hb); (try replace hb := of_decide_eq_false hb)))
      | (refine W.go TOK 91 hΓ 1000 rfl ?_; (conv => whnf); refine ⟨?_, ?_⟩)
      | (refine D.go TOK 91 hΓ 1000 rfl ?_; (conv => whnf); refine ⟨?_, ?_⟩)
      | (refine W.drawn rfl rfl ?_; refine D.run TOK 91 hΓ 1000 ?_; (conv => whnf); refine ⟨?_, ?_⟩)
    all_goals (repeat' apply And.intro)
    all_goals try (first
      | exact trivial
      | exact rfl
      | exact fun _ _ => A.sim.refl _
      | exact A.sim.refl _
      | exact Nat.le_refl _
      | omega
      | exact fun _ _ => trivial
      | exact fun i _ => shift_sim _ _ i
      | exact fun _ h => absurd h (Nat.not_lt_zero _)
      | exact fun i _ => isInt_byteAt _ i
      | (simp only [allP, List.nil_append, List.append_nil, List.cons_append, List.append_eq, and_true, true_and, inr_i64, inr_u8, inr_u64, min_i64, max_i64, min_u64, max_u64, min_u8, max_u8, A.purePL, A.pureP, A.sureP, A.surePL, Int.toNat_natCast, Int.reduceToNat, addI, cHi, cLo, hiN, loN, subO, addO, hasIdx, cond_true, cond_false]; first | done | omega | ((repeat' apply And.intro) <;> first | exact trivial | rfl | omega | decide))
      )
  · have hd1 : dAt w k = (default, false) := if_neg hk2
    rw [hd1]
    repeat' first
      | assumption
      | exact Bool.noConfusion hb
      | exact absurd hb (by decide)
      | (exfalso; omega)
      | (exfalso; simp at hb; done)
      | (refine W.retA TOK rfl ?_; (conv => whnf); refine ⟨rfl, rfl, rfl, rfl, rfl, rfl, ?_, ?_, ?_⟩)
      | (refine W.branch rfl (fun hb => ?_) (fun hb => ?_) <;> ((try simp only [decide_eq_true_eq, decide_eq_false_iff_not, Bool.not_eq_true', Bool.not_eq_false', Int.not_lt, Int.not_le, cond_true, cond_false, reduceCtorEq, Int.toNat_natCast, Int.reduceToNat, addI] at hb); (try replace hb := of_decide_eq_true hb); (try replace hb := of_decide_eq_false hb)))
      | (refine D.branch rfl (fun hb => ?_) (fun hb => ?_) <;> ((try simp only [decide_eq_true_eq, decide_eq_false_iff_not, Bool.not_eq_true', Bool.not_eq_false', Int.not_lt, Int.not_le, cond_true, cond_false, reduceCtorEq, Int.toNat_natCast, Int.reduceToNat, addI] at hb); (try replace hb := of_decide_eq_true hb); (try replace hb := of_decide_eq_false hb)))
      | (refine W.go TOK 91 hΓ 1000 rfl ?_; (conv => whnf); refine ⟨?_, ?_⟩)
      | (refine D.go TOK 91 hΓ 1000 rfl ?_; (conv => whnf); refine ⟨?_, ?_⟩)
      | (refine W.drawn rfl rfl ?_; refine D.run TOK 91 hΓ 1000 ?_; (conv => whnf); refine ⟨?_, ?_⟩)
    all_goals (repeat' apply And.intro)
    all_goals try (first
      | exact trivial
      | exact rfl
      | exact fun _ _ => A.sim.refl _
      | exact A.sim.refl _
      | exact Nat.le_refl _
      | omega
      | exact fun _ _ => trivial
      | exact fun i _ => shift_sim _ _ i
      | exact fun _ h => absurd h (Nat.not_lt_zero _)
      | exact fun i _ => isInt_byteAt _ i
      | (simp only [allP, List.nil_append, List.append_nil, List.cons_append, List.append_eq, and_true, true_and, inr_i64, inr_u8, inr_u64, min_i64, max_i64, min_u64, max_u64, min_u8, max_u8, A.purePL, A.pureP, A.sureP, A.surePL, Int.toNat_natCast, Int.reduceToNat, addI, cHi, cLo, hiN, loN, subO, addO, hasIdx, cond_true, cond_false]; first | done | omega | ((repeat' apply And.intro) <;> first | exact trivial | rfl | omega | decide))
      )

end Go.Proofs.Ythnmbpcdcjamoaa
