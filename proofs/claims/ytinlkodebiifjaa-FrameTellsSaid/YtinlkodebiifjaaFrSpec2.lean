/- Frames, in plain Lean: what is put is read. -/
import Derived.Test.YtinlkodebiifjaaFrSpec
set_option linter.unusedSimpArgs false
set_option linter.unusedVariables false
namespace VX
open Go
theorem byteI_nat (n : Int) : ((byteI n).toNat : Int) = n % 256 := by
  unfold byteI
  rw [UInt8.toNat_ofNat']
  omega
theorem leN_num4 (n : Nat) (h : n < 4294967296) : leN ((numS n).take 4) = n := by
  rw [num4]
  have a := byteI_nat (n : Int)
  have b := byteI_nat ((n : Int) / 256)
  have c := byteI_nat ((n : Int) / 65536)
  have d := byteI_nat ((n : Int) / 16777216)
  simp only [leN]
  omega
theorem read_frame (k : UInt8) (seq : Int) (body r : List UInt8) (hk : k.toNat ≠ 0) (h0 : 0 ≤ seq) (h1 : seq ≤ 9223372036854775807) (hb : body.length ≤ 4096) :
    readS (frameB k seq body ++ r) = ((k.toNat : Int), seq, body, ((21 + body.length : Nat) : Int), 0) := by
  have l4 : ((numS body.length).take 4).length = 4 := by rw [List.length_take, numS_length]; rfl
  have e4 : (frameB k seq body ++ r).take 4 = (numS body.length).take 4 := by
    unfold frameB
    rw [List.append_assoc, List.take_append_of_le_length (by rw [l4]; exact Nat.le_refl _), List.take_of_length_le (by rw [l4]; exact Nat.le_refl _)]
  have d4 : (frameB k seq body ++ r).drop 4 = k :: (numS seq ++ (body ++ (markS k seq body ++ r))) := by
    unfold frameB
    rw [List.append_assoc, List.drop_append_of_le_length (by rw [l4]; exact Nat.le_refl _), List.drop_of_length_le (by rw [l4]; exact Nat.le_refl _)]
    simp only [List.nil_append, List.append_assoc, List.cons_append]
  have hn : rdN (frameB k seq body ++ r) = body.length := by unfold rdN; rw [e4, leN_num4 _ (by omega)]
  have hkk : rdK (frameB k seq body ++ r) = k := by
    have : (frameB k seq body ++ r).getD 4 0 = ((frameB k seq body ++ r).drop 4).getD 0 0 := by rw [List.getD_eq_getElem?_getD, List.getD_eq_getElem?_getD, List.getElem?_drop]
    show (frameB k seq body ++ r).getD 4 0 = k
    rw [this, d4]; rfl
  have d5 : (frameB k seq body ++ r).drop 5 = numS seq ++ (body ++ (markS k seq body ++ r)) := by
    rw [show 5 = 4 + 1 from rfl, ← List.drop_drop, d4]; rfl
  have hq : (rdQ (frameB k seq body ++ r) : Int) = seq := by
    unfold rdQ
    rw [d5, List.take_append_of_le_length (by rw [numS_length]; exact Nat.le_refl _), List.take_of_length_le (by rw [numS_length]; exact Nat.le_refl _)]
    exact leN_numS seq (inr_u64.2 ⟨h0, by omega⟩)
  have d13 : (frameB k seq body ++ r).drop 13 = body ++ (markS k seq body ++ r) := by
    rw [show 13 = 5 + 8 from rfl, ← List.drop_drop, d5, List.drop_append_of_le_length (by rw [numS_length]; exact Nat.le_refl _), List.drop_of_length_le (by rw [numS_length]; exact Nat.le_refl _)]; rfl
  have hbd : ((frameB k seq body ++ r).drop 13).take body.length = body := by rw [d13, List.take_append_of_le_length (Nat.le_refl _), List.take_of_length_le (Nat.le_refl _)]
  have hm : ((frameB k seq body ++ r).drop (13 + body.length)).take 8 = markS k seq body := by
    rw [← List.drop_drop, d13, List.drop_append_of_le_length (Nat.le_refl _), List.drop_of_length_le (Nat.le_refl _), List.nil_append, List.take_append_of_le_length (by rw [markS_len]; exact Nat.le_refl _), List.take_of_length_le (by rw [markS_len]; exact Nat.le_refl _)]
  have hl : (frameB k seq body ++ r).length = 21 + body.length + r.length := by rw [List.length_append, frameB_len]
  unfold readS
  rw [hn, hkk, hq, hbd, hm, if_neg (by omega), if_neg (by omega), if_neg (by omega), if_neg (by simp)]
theorem read_err (b : List UInt8) : (readS b).2.2.2.2 = 0 ∨ (readS b).2.2.1 = [] := by
  unfold readS frE
  repeat' split
  all_goals first | exact .inl rfl | exact .inr rfl
theorem read_len (b : List UInt8) : (readS b).2.2.1.length ≤ b.length := by
  unfold readS frE
  repeat' split
  all_goals first | exact Nat.zero_le _ | skip
  show (List.take _ _).length ≤ _
  rw [List.length_take, List.length_drop]; omega
theorem set_sim (l : List UInt8) (e : Nat) (v : UInt8) {n : Nat} (hn : n ≤ l.length) : ∀ i, i < n → (setF (byteAt l) e (VX.byte v) i).sim (byteAt (l.set e v) i) := fun i hi => by
  refine A.sim.of ?_
  unfold setF
  by_cases h : i = e
  · subst h
    have : Nat.beq i i = true := by simp
    rw [this, cond_true]
    show _ = VX.byte ((l.set i v).getD i 0)
    rw [List.getD_eq_getElem?_getD, List.getElem?_set_self (by omega)]; rfl
  · have : Nat.beq i e = false := nbeq_ne h
    rw [this, cond_false]
    show VX.byte (l.getD i 0) = VX.byte ((l.set e v).getD i 0)
    rw [List.getD_eq_getElem?_getD, List.getD_eq_getElem?_getD, List.getElem?_set_ne (Ne.symm h)]
theorem byte_ex {n : Int} (h : inr .u8 n) : ∃ v : UInt8, A.int .u8 n = VX.byte v := ⟨_, byte_of h⟩
theorem putS_ok {kind seq : Int} {body : List UInt8} (h1 : 1 ≤ kind) (h2 : kind ≤ 255) (h3 : 0 ≤ seq) (h4 : body.length ≤ 4096) : putS kind seq body = (frameB (byteI kind) seq body, 0) := by
  unfold putS
  rw [if_neg (by omega), if_neg (by omega)]
end VX
namespace VX
open Go
theorem and_small (n : Int) (m : Nat) (hm : m < 2 ^ 62) : 0 ≤ bitsI .and .i64 n m ∧ bitsI .and .i64 n m ≤ m := by
  have h : ((BitVec.ofInt 64 n) &&& (BitVec.ofInt 64 (m : Int))).toNat ≤ m := by
    rw [BitVec.toNat_and, BitVec.ofInt_natCast, BitVec.toNat_ofNat, Nat.mod_eq_of_lt (a := m) (by omega)]
    exact Nat.and_le_right
  have e : bitsI .and .i64 n m = ((((BitVec.ofInt 64 n) &&& (BitVec.ofInt 64 (m : Int))).toNat : Nat) : Int) := by
    show IntKind.i64.wrap ((((BitVec.ofInt 64 n) &&& (BitVec.ofInt 64 (m : Int))).toNat : Nat) : Int) = _
    exact wrap_i64_in (by omega) (by omega)
  rw [e]
  omega
end VX
namespace VX
theorem at_app (l m : List UInt8) (j : Nat) : byteAt (l ++ m) (l.length + j) = byteAt m j := by
  unfold byteAt
  rw [List.getD_eq_getElem?_getD, List.getD_eq_getElem?_getD, List.getElem?_append_right (by omega), Nat.add_sub_cancel_left]
end VX
