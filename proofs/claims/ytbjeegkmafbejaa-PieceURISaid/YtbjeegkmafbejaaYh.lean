/- Plain words on characters' classes. No program. -/
import Derived.Test.YtbjeegkmafbejaaYc
namespace Go.Proofs.Ytbjeegkmafbejaa.Y
/-- May a number be a character? -/
def mayC (c : Int) : Bool := decide (0 ≤ c) && decide (c ≤ 1114111) && (decide (c < 55296) || decide (57343 < c))
def isDigit (c : Int) : Bool := decide (48 ≤ c) && decide (c ≤ 57)
def isAlpha (c : Int) : Bool := (decide (65 ≤ c) && decide (c ≤ 90)) || (decide (97 ≤ c) && decide (c ≤ 122))
def isWord (c : Int) : Bool := isAlpha c || isDigit c || c == 95
def isHex (c : Int) : Bool := isDigit c || (decide (65 ≤ c) && decide (c ≤ 70)) || (decide (97 ≤ c) && decide (c ≤ 102))
def isUnres (c : Int) : Bool := isAlpha c || isDigit c || c == 45 || c == 46 || c == 95 || c == 126
/-- Is a character of a class? -/
def hasC (k c : Int) : Bool := if k = 1 then isDigit c else if k = 2 then isWord c else if k = 3 then mayC c && !(c == 37) else mayC c && k == 4
theorem all256 {p : Int → Bool} (h : (List.range 256).all (fun n => p (n : Int)) = true) (c : Int) (h0 : 0 ≤ c) (h1 : c < 256) : p c = true := by
  have := List.all_eq_true.1 h c.toNat (List.mem_range.2 (by omega))
  rwa [Int.toNat_of_nonneg h0] at this
theorem digit_has (c : Int) (h0 : 0 ≤ c) (h1 : c < 256) : digitSet.has c = isDigit c := eq_of_beq (all256 (p := fun c => digitSet.has c == isDigit c) (by decide +kernel) c h0 h1)
theorem word_has (c : Int) (h0 : 0 ≤ c) (h1 : c < 256) : wordSet.has c = isWord c := eq_of_beq (all256 (p := fun c => wordSet.has c == isWord c) (by decide +kernel) c h0 h1)
theorem hex_has (c : Int) (h0 : 0 ≤ c) (h1 : c < 256) : hexSet.has c = isHex c := eq_of_beq (all256 (p := fun c => hexSet.has c == isHex c) (by decide +kernel) c h0 h1)
theorem unres_has (c : Int) (h0 : 0 ≤ c) (h1 : c < 256) : unreservedSet.has c = isUnres c := eq_of_beq (all256 (p := fun c => unreservedSet.has c == isUnres c) (by decide +kernel) c h0 h1)
end Go.Proofs.Ytbjeegkmafbejaa.Y
