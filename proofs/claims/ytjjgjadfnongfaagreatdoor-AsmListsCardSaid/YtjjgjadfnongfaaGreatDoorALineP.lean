import Derived.Test.YtjjgjadfnongfaaGreatDoorABits
import Derived.Lib.Strings
import Derived.Lib.ItoaNum
set_option linter.unusedVariables false
set_option linter.unusedSimpArgs false
namespace Go.Proofs.YtjjgjadfnongfaaGreatDoor
/-! The lines of instructions, over bytes. -/
def opsL : List (List UInt8) := [[77, 79, 86], [76, 83, 76], [65, 83, 82], [82, 79, 82], [65, 78, 68], [65, 78, 78], [73, 79, 82], [88, 79, 82], [65, 68, 68], [83, 85, 66], [77, 85, 76], [68, 73, 86]]
def condsL : List (List UInt8) := [[77, 73], [69, 81], [67, 83], [86, 83], [76, 83], [76, 84], [76, 69], [84], [80, 76], [78, 69], [67, 67], [86, 67], [72, 73], [71, 69], [71, 84], [70]]
def opN (n : Int) : List UInt8 := opsL.getD n.toNat []
def condN (n : Int) : List UInt8 := condsL.getD n.toNat []
def markL (u v : Bool) : List UInt8 := (if u then [39] else []) ++ (if v then [34] else [])
def regL (n : Int) : List UInt8 := 82 :: Lib.itoa n
/-- What an instruction is called. -/
def nameI (x : Ins) : List UInt8 :=
  if x.form = 0 ∨ x.form = 1 then opN x.op ++ markL x.u x.v
  else if x.form = 2 then (if x.u then [83, 84] else [76, 68]) ++ (if x.v then [66] else [82])
  else (if x.v then [66, 76] else [66]) ++ (46 :: condN x.a)
/-- What stands behind its name. -/
def restI (x : Ins) : List UInt8 :=
  if x.form = 0 then regL x.a ++ ([44, 32] ++ (regL x.b ++ ([44, 32] ++ regL x.c)))
  else if x.form = 3 then (if x.u then Lib.itoa x.im else regL x.c)
  else regL x.a ++ ([44, 32] ++ (regL x.b ++ ([44, 32] ++ Lib.itoa x.im)))
def lineI (x : Ins) : List UInt8 := nameI x ++ (32 :: restI x)
/-- A word's line. -/
def lineW (w : Int) : List UInt8 × Int := if goodW w then (lineI (insOf w), 0) else ([], 20)
end Go.Proofs.YtjjgjadfnongfaaGreatDoor
