/- What the sponge's functions come to, in plain words: words of 64 bits as numbers, bytes as lists. -/
import Derived.Test.YthnmbpcdcjamoaaVxI
set_option linter.unusedSimpArgs false
set_option linter.unusedVariables false
namespace VX
open Go
def xr (a b : Int) : Int := bitsI .xor .u64 a b
def orr (a b : Int) : Int := bitsI .or .u64 a b
def an (a b : Int) : Int := bitsI .and .u64 a b
def ntw (a : Int) : Int := bitsI .xor .u64 18446744073709551615 a
def shr (a n : Int) : Int := shrI .u64 a n
def shl (a n : Int) : Int := shlI .u64 a n
def turn (x n : Int) : Int := orr (shr x n) (shl x (64 - n))
def turned (x a b : Int) : Int := xr (xr x (turn x a)) (turn x b)
def st (s : Nat → Int) : A := .vec 1 5 fun i => .int .u64 (s i)
def rnd (s : Nat → Int) (c : Int) : Nat → Int :=
  let a0 := xr (s 0) (s 4)
  let a2 := xr (xr (s 2) c) (s 1)
  let a4 := xr (s 4) (s 3)
  let t0 := xr a0 (an (ntw (s 1)) a2)
  let t1 := xr (s 1) (an (ntw a2) (s 3))
  let t2 := xr a2 (an (ntw (s 3)) a4)
  let t3 := xr (s 3) (an (ntw a4) a0)
  let t4 := xr a4 (an (ntw a0) (s 1))
  fun i => match i with
    | 0 => turned (xr t0 t4) 19 28
    | 1 => turned (xr t1 t0) 61 39
    | 2 => turned (ntw t2) 1 6
    | 3 => turned (xr t3 t2) 10 17
    | 4 => turned t4 7 41
    | _ => 0
def permN : Nat → (Nat → Int) → Nat → Int
  | 0, s => s
  | n + 1, s => rnd (permN n s) (240 - 15 * n)
def perm (s : Nat → Int) : Nat → Int := permN 12 s
end VX
namespace VX
open Go
def blk (m : List UInt8) (j : Nat) : List UInt8 := (m.drop (8 * j)).take 8
end VX
namespace VX
open Go
end VX
namespace VX
end VX
namespace VX
end VX
