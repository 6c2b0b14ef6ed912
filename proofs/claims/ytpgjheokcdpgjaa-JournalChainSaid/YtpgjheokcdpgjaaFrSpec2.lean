/- Frames, in plain Lean: what is put is read. -/
import Derived.Test.YtpgjheokcdpgjaaFrSpec
set_option linter.unusedSimpArgs false
set_option linter.unusedVariables false
namespace VX
open Go
theorem byteI_nat (n : Int) : ((byteI n).toNat : Int) = n % 256 := by
  unfold byteI
  rw [UInt8.toNat_ofNat']
  omega
theorem leN_num4 (n : Nat) (h : n < 4294967296) : leN ((numS n).take 4) = n := by
  rw [num4]
  have a := byteI_nat (n : Int)
  have b := byteI_nat ((n : Int) / 256)
  have c := byteI_nat ((n : Int) / 65536)
  have d := byteI_nat ((n : Int) / 16777216)
  simp only [leN]
  omega
theorem read_frame (k : UInt8) (seq : Int) (body r : List UInt8) (hk : k.toNat ≠ 0) (h0 : 0 ≤ seq) (h1 : seq ≤ 9223372036854775807) (hb : body.length ≤ 4096) :
    readS (frameB k seq body ++ r) = ((k.toNat : Int), seq, body, ((21 + body.length : Nat) : Int), 0) := by
  have l4 : ((numS body.length).take 4).length = 4 := by rw [List.length_take, numS_length]; rfl
  have e4 : (frameB k seq body ++ r).take 4 = (numS body.length).take 4 := by
    unfold frameB
    rw [List.append_assoc, List.take_append_of_le_length (by rw [l4]; exact Nat.le_refl _), List.take_of_length_le (by rw [l4]; exact Nat.le_refl _)]
  have d4 : (frameB k seq body ++ r).drop 4 = k :: (numS seq ++ (body ++ (markS k seq body ++ r))) := by
    unfold frameB
    rw [List.append_assoc, List.drop_append_of_le_length (by rw [l4]; exact Nat.le_refl _), List.drop_of_length_le (by rw [l4]; exact Nat.le_refl _)]
    simp only [List.nil_append, List.append_assoc, List.cons_append]
  have hn : rdN (frameB k seq body ++ r) = body.length := by unfold rdN; rw [e4, leN_num4 _ (by omega)]
  have hkk : rdK (frameB k seq body ++ r) = k := by
    have : (frameB k seq body ++ r).getD 4 0 = ((frameB k seq body ++ r).drop 4).getD 0 0 := by rw [List.getD_eq_getElem?_getD, List.getD_eq_getElem?_getD, List.getElem?_drop]
    show (frameB k seq body ++ r).getD 4 0 = k
    rw [this, d4]; rfl
  have d5 : (frameB k seq body ++ r).drop 5 = numS seq ++ (body ++ (markS k seq body ++ r)) := by
    rw [show 5 = 4 + 1 from rfl, ← List.drop_drop, d4]; rfl
  have hq : (rdQ (frameB k seq body ++ r) : Int) = seq := by
    unfold rdQ
    rw [d5, List.take_append_of_le_length (by rw [numS_length]; exact Nat.le_refl _), List.take_of_length_le (by rw [numS_length]; exact Nat.le_refl _)]
    exact leN_numS seq (inr_u64.2 ⟨h0, by omega⟩)
  have d13 : (frameB k seq body ++ r).drop 13 = body ++ (markS k seq body ++ r) := by
    rw [show 13 = 5 + 8 from rfl, ← List.drop_drop, d5, List.drop_append_of_le_length (by rw [numS_length]; exact Nat.le_refl _), List.drop_of_length_le (by rw [numS_length]; exact Nat.le_refl _)]; rfl
  have hbd : ((frameB k seq body ++ r).drop 13).take body.length = body := by rw [d13, List.take_append_of_le_length (Nat.le_refl _), List.take_of_length_le (Nat.le_refl _)]
  have hm : ((frameB k seq body ++ r).drop (13 + body.length)).take 8 = markS k seq body := by
    rw [← List.drop_drop, d13, List.drop_append_of_le_length (Nat.le_refl _), List.drop_of_length_le (Nat.le_refl _), List.nil_append, List.take_append_of_le_length (by rw [markS_len]; exact Nat.le_refl _), List.take_of_length_le (by rw [markS_len]; exact Nat.le_refl _)]
  have hl : (frameB k seq body ++ r).length = 21 + body.length + r.length := by rw [List.length_append, frameB_len]
  unfold readS
  rw [hn, hkk, hq, hbd, hm, if_neg (by omega), if_neg (by omega), if_neg (by omega), if_neg (by simp)]
end VX
namespace VX
open Go
end VX
namespace VX
end VX
