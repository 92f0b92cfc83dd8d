/- Words. -/
import Derived.Test.YtiaenhlflgobfaaGreatDoorM2
namespace Go.Proofs.YtiaenhlflgobfaaGreatDoor
def isL (c : Int) : Bool := decide (97 ≤ c) && decide (c ≤ 122)
def isD (c : Int) : Bool := decide (48 ≤ c) && decide (c ≤ 57)
def bL (c : UInt8) : Bool := isL (c.toNat : Int)
def bD (c : UInt8) : Bool := isD (c.toNat : Int)
def wd (s : T) : Bool := (match s with | [] => false | c :: _ => bL c) && s.all (fun c => bL c || bD c)
def cutN (s : T) : Nat := (s.takeWhile (fun c => c != 47)).length
def wd20 (s : T) : Bool := wd s && decide (s.length ≤ 20)
def labR (s : T) : Bool := if _h : cutN s < s.length then wd20 (s.take (cutN s)) && labR (s.drop (cutN s + 1)) else wd20 s
termination_by s.length
decreasing_by simp; omega
def lab (s : T) : Bool := decide (s.length ≤ 90) && labR s
end Go.Proofs.YtiaenhlflgobfaaGreatDoor
