/- Plain definitions: the texts of numbers. -/
import Derived.Test.YtmapaagdaojpaaaGreatDoorPure
import Derived.Lib.Strings
import Derived.Lib.SlTrimSet
namespace Go.Proofs.YtmapaagdaojpaaaGreatDoor

def digitsB : ByteArray := ⟨#[48, 49, 50, 51, 52, 53, 54, 55, 56, 57]⟩
def dashB : ByteArray := ⟨#[45]⟩
def numD (s : ByteArray) : ByteArray := ⟨(Lib.trimPrefix s.data.toList dashB.data.toList).toArray⟩
def trimD (d : ByteArray) : ByteArray := ⟨(Lib.trimS d.data.toList digitsB.data.toList).toArray⟩
/-- Is it the text of a number? -/
def isNumB (s : ByteArray) : Bool :=
  !(numD s).toList.isEmpty && decide ((numD s).size ≤ 500) && (trimD (numD s)).toList.isEmpty && (bt (numD s) 0 != 48 || s.toList == [48])
section
variable {s d : ByteArray} {R : Bool}
theorem num_no (h : isNumB s = R) (hd : numD s = d) (hx : d.toList = [] ∨ ¬ d.size ≤ 500 ∨ ¬ (trimD d).toList = []) : R = false := by
  subst hd h
  unfold isNumB
  rcases hx with hx | hx | hx <;> simp [hx]
theorem num_yes (h : isNumB s = R) (hd : numD s = d) (h1 : ¬ d.toList = []) (h2 : d.size ≤ 500) (h3 : (trimD d).toList = []) : R = (bt d 0 != 48 || s.toList == [48]) := by
  subst hd h
  unfold isNumB
  simp [h1, h2, h3]
end
end Go.Proofs.YtmapaagdaojpaaaGreatDoor
