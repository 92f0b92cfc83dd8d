/- Words. -/
import Derived.Test.YtiaenhlflgobfaaGreatDoorTb6
namespace Go.Proofs.YtiaenhlflgobfaaGreatDoor
def isL (c : Int) : Bool:=decide (97 ≤ c) && decide (c ≤ 122)
def isD (c : Int) : Bool:=decide (48 ≤ c) && decide (c ≤ 57)
def bL (c : UInt8) : Bool:=isL (c.toNat : Int)
def bD (c : UInt8) : Bool:=isD (c.toNat : Int)
def wd (s : T) : Bool:=(match s with | [] => false | c :: _ => bL c) && s.all (fun c => bL c || bD c)
def Zr (s : T) : Nat:=(s.takeWhile (fun c => c != 47)).length
def Qb1 (s : T) : Bool:=wd s && decide (s.length ≤ 20)
def Qah (s : T) : Bool:=if _h : Zr s < s.length then Qb1 (s.take (Zr s)) && Qah (s.drop (Zr s + 1)) else Qb1 s
termination_by s.length
decreasing_by simp;omega
def lab (s : T) : Bool:=decide (s.length ≤ 90) && Qah s
end Go.Proofs.YtiaenhlflgobfaaGreatDoor
