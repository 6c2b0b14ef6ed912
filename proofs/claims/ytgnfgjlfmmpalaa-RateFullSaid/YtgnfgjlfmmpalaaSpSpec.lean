/- What the sponge's functions come to, in plain words: words of 64 bits as numbers, bytes as lists. -/
import Derived.Test.YtgnfgjlfmmpalaaVxH
set_option linter.unusedSimpArgs false
set_option linter.unusedVariables false
namespace VX
open Go
def an (a b : Int) : Int := bitsI .and .u64 a b
def shr (a n : Int) : Int := shrI .u64 a n
def shl (a n : Int) : Int := shlI .u64 a n
end VX
namespace VX
open Go
def blk (m : List UInt8) (j : Nat) : List UInt8 := (m.drop (8 * j)).take 8
end VX
namespace VX
open Go
end VX
namespace VX
end VX
namespace VX
end VX
