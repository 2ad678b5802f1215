/- The head's words, read once; what the rows ask of the whole program. Conditions: none. -/
import Derived.Test.YtbaihlhoedbpkaaRows
import Derived.ProofKit
import Derived.KernelRfl
namespace Go.Proofs.Ytbaihlhoedbpkaa
open Go
def headSigns : List Char := [104, 97, 114, 110, 101, 115, 115, 32, 55, 49, 100, 57, 101, 97, 57, 48, 54, 52, 56, 53, 50, 57, 53, 56, 49, 50, 97, 56, 51, 57, 50, 53, 49, 52, 101, 99, 99, 52, 101, 99, 56, 53, 56, 52, 52, 50, 102, 49, 101, 53, 55, 102, 53, 54, 100, 54, 50, 57, 55, 51, 48, 101, 51, 57, 49, 49, 98, 48, 50, 52, 49, 100, 32, 99, 117, 116, 32, 97, 116, 32, 104, 97, 121, 119, 97, 105, 110, 47, 104, 97, 121, 119, 97, 105, 110, 108, 97, 119, 50, 48, 46, 87, 111, 114, 107, 101, 114, 76, 101, 97, 115, 101, 100, 32, 104, 97, 121, 119, 97, 105, 110, 47, 104, 97, 121, 119, 97, 105, 110, 108, 97, 119, 50, 48, 46, 87, 111, 114, 107, 101, 114, 79, 110, 99, 101, 32, 104, 97, 121, 119, 97, 105, 110, 47, 104, 97, 121, 119, 97, 105, 110, 108, 97, 119, 50, 48, 46, 87, 111, 114, 107, 101, 114, 77, 105, 110, 101, 32, 104, 97, 121, 119, 97, 105, 110, 47, 104, 97, 121, 119, 97, 105, 110, 108, 97, 119, 50, 48, 46, 87, 111, 114, 107, 101, 114, 83, 116, 97, 108, 101, 32, 104, 97, 121, 119, 97, 105, 110, 47, 104, 97, 121, 119, 97, 105, 110, 108, 97, 119, 50, 48, 46, 87, 111, 114, 107, 101, 114, 65, 108, 111, 110, 101, 32, 104, 97, 121, 119, 97, 105, 110, 47, 104, 97, 121, 119, 97, 105, 110, 108, 97, 119, 50, 48, 46, 87, 111, 114, 107, 101, 114, 72, 97, 110, 100, 115].map Char.ofNat
theorem headOf_eq : Try.prog.initOrder = String.ofList headSigns := by kernel_rfl
theorem head_list : Try.prog.initOrder.toList = headSigns := by rw [headOf_eq]; exact String.toList_ofList
theorem head_words : behindMainWord (wordsSigns Try.prog.initOrder.toList) = behindMainWord (wordsSigns headSigns) := by rw [head_list]
def headWords : List (List Char) := ([[99, 117, 116], [97, 116], [104, 97, 121, 119, 97, 105, 110, 47, 104, 97, 121, 119, 97, 105, 110, 108, 97, 119, 50, 48, 46, 87, 111, 114, 107, 101, 114, 76, 101, 97, 115, 101, 100], [104, 97, 121, 119, 97, 105, 110, 47, 104, 97, 121, 119, 97, 105, 110, 108, 97, 119, 50, 48, 46, 87, 111, 114, 107, 101, 114, 79, 110, 99, 101], [104, 97, 121, 119, 97, 105, 110, 47, 104, 97, 121, 119, 97, 105, 110, 108, 97, 119, 50, 48, 46, 87, 111, 114, 107, 101, 114, 77, 105, 110, 101], [104, 97, 121, 119, 97, 105, 110, 47, 104, 97, 121, 119, 97, 105, 110, 108, 97, 119, 50, 48, 46, 87, 111, 114, 107, 101, 114, 83, 116, 97, 108, 101], [104, 97, 121, 119, 97, 105, 110, 47, 104, 97, 121, 119, 97, 105, 110, 108, 97, 119, 50, 48, 46, 87, 111, 114, 107, 101, 114, 65, 108, 111, 110, 101], [104, 97, 121, 119, 97, 105, 110, 47, 104, 97, 121, 119, 97, 105, 110, 108, 97, 119, 50, 48, 46, 87, 111, 114, 107, 101, 114, 72, 97, 110, 100, 115]] : List (List Nat)).map (List.map Char.ofNat)
theorem words_eq : behindMainWord (wordsSigns headSigns) = headWords := by kernel_rfl
theorem lifts0 : stripLifts liftWords headWords = ([], headWords) := by kernel_rfl
def restWords : List (List Char) := headWords.tail
theorem words_cons : headWords = "cut".toList :: restWords := by kernel_rfl
theorem c1 : ("cut".toList == "gc".toList || "cut".toList == "spec".toList) = false := by kernel_rfl
theorem c2 : ("cut".toList == "cut".toList) = true := by kernel_rfl
theorem c3 : ("cut".toList == "carried".toList) = false := by kernel_rfl
theorem later0 : Try.prog.laysLater = false := by kernel_rfl
theorem refl0 : Try.prog.bearsReflect = false := by kernel_rfl
theorem door0 : Try.prog.doorFits [] = true := by kernel_rfl
theorem head_at : behindMainWord (wordsSigns Try.prog.initOrder.toList) = "cut".toList :: restWords := head_words.trans (words_eq.trans words_cons)
theorem lifts0c : stripLifts liftWords ("cut".toList :: restWords) = ([], "cut".toList :: restWords) := by rw [← words_cons]; exact lifts0
section
variable {P : Program} {rest : List (List Char)} (h : behindMainWord (wordsSigns P.initOrder.toList) = "cut".toList :: rest)
include h
theorem make_of : P.make = some .cut := by
  unfold Program.make
  rw [h]
  dsimp only
  rw [if_neg (by rw [c1]; exact Bool.false_ne_true), if_pos (by rw [c2]; rfl)]
variable (hl : stripLifts liftWords ("cut".toList :: rest) = ([], "cut".toList :: rest))
include hl
theorem headLifts_of : P.headLifts = [] := by
  unfold Program.headLifts
  rw [h, hl]
  dsimp only
  split <;> rfl
theorem lifts_of : P.liftsFinal = false := by
  unfold Program.liftsFinal
  rw [headLifts_of h hl, h]
  dsimp only [List.head?_cons]
  have e : ((some "cut".toList : Option (List Char)) == some "carried".toList) = false := c3
  rw [e]
  rfl
theorem mayEnter_of (a : P.laysLater = false) (b : P.bearsReflect = false) (c : P.doorFits [] = true) : P.mayEnter = true := by
  unfold Program.mayEnter
  rw [h]
  dsimp only
  rw [c1, c3, hl]
  dsimp only [List.head?_cons]
  have e : ((some "cut".toList : Option (List Char)) == some "cut".toList) = true := c2
  rw [e, a, b, c]
  rfl
end
theorem make_ok : Try.prog.make = some .cut := make_of head_at
theorem lifts_ok : Try.prog.liftsFinal = false := lifts_of head_at lifts0c
theorem mayEnter_ok : Try.prog.mayEnter = true := mayEnter_of head_at lifts0c later0 refl0 door0
end Go.Proofs.Ytbaihlhoedbpkaa
