/- Closed facts on the loaded program that every row's proof wants; the label is read off a list of numbers, for its length. -/
import Derived.Test.YtmloiifnadaaoaaRows
import Derived.ProofKit
import Derived.JoinedOf
import Derived.KernelRfl
namespace Go.Proofs.Ytmloiifnadaaoaa
set_option maxRecDepth 100000

def labelNats : List Nat := [104, 97, 114, 110, 101, 115, 115, 32, 98, 50, 101, 102, 100, 57, 56, 48, 98, 54, 99, 54, 56, 54, 51, 54, 54, 54, 48, 53, 97, 57, 55, 56, 102, 101, 57, 102, 51, 50, 98, 101, 48, 55, 49, 102, 56, 99, 57, 55, 99, 48, 54, 48, 50, 55, 53, 101, 50, 57, 52, 49, 99, 51, 50, 102, 101, 100, 49, 50, 99, 56, 51, 49, 32, 99, 117, 116, 32, 97, 116, 32, 116, 101, 103, 117, 108, 97, 47, 116, 101, 103, 117, 108, 97, 108, 97, 119, 49, 48, 46, 71, 101, 111, 109, 101, 116, 114, 121, 86, 97, 108, 105, 100, 32, 116, 101, 103, 117, 108, 97, 47, 116, 101, 103, 117, 108, 97, 108, 97, 119, 49, 48, 46, 71, 101, 111, 109, 101, 116, 114, 121, 83, 104, 97, 100, 111, 119, 32, 116, 101, 103, 117, 108, 97, 47, 116, 101, 103, 117, 108, 97, 108, 97, 119, 49, 48, 46, 71, 101, 111, 109, 101, 116, 114, 121, 79, 114, 100, 101, 114, 32, 116, 101, 103, 117, 108, 97, 47, 116, 101, 103, 117, 108, 97, 108, 97, 119, 49, 48, 46, 71, 101, 111, 109, 101, 116, 114, 121, 76, 111, 99, 97, 116, 101, 32, 116, 101, 103, 117, 108, 97, 47, 116, 101, 103, 117, 108, 97, 108, 97, 119, 49, 48, 46, 71, 101, 111, 109, 101, 116, 114, 121, 65, 100, 100, 114, 101, 115, 115, 32, 116, 101, 103, 117, 108, 97, 47, 116, 101, 103, 117, 108, 97, 108, 97, 119, 49, 48, 46, 71, 101, 111, 109, 101, 116, 114, 121, 85, 110, 105, 111, 110, 32, 116, 101, 103, 117, 108, 97, 47, 116, 101, 103, 117, 108, 97, 108, 97, 119, 49, 48, 46, 71, 101, 111, 109, 101, 116, 114, 121, 73, 110, 118, 101, 114, 115, 101, 32, 116, 101, 103, 117, 108, 97, 47, 116, 101, 103, 117, 108, 97, 108, 97, 119, 49, 49, 46, 77, 101, 100, 105, 97, 65, 112, 97, 114, 116, 32, 116, 101, 103, 117, 108, 97, 47, 116, 101, 103, 117, 108, 97, 108, 97, 119, 49, 49, 46, 77, 101, 100, 105, 97, 83, 101, 113, 117, 101, 110, 116, 105, 97, 108, 32, 116, 101, 103, 117, 108, 97, 47, 116, 101, 103, 117, 108, 97, 108, 97, 119, 49, 49, 46, 77, 101, 100, 105, 97, 79, 112, 115, 32, 116, 101, 103, 117, 108, 97, 47, 116, 101, 103, 117, 108, 97, 108, 97, 119, 49, 49, 46, 77, 101, 100, 105, 97, 76, 111, 99, 97, 108, 32, 116, 101, 103, 117, 108, 97, 47, 116, 101, 103, 117, 108, 97, 108, 97, 119, 49, 49, 46, 77, 101, 100, 105, 97, 67, 108, 111, 110, 101, 32, 116, 101, 103, 117, 108, 97, 47, 116, 101, 103, 117, 108, 97, 108, 97, 119, 49, 49, 46, 77, 101, 100, 105, 97, 78, 105, 108, 32, 116, 101, 103, 117, 108, 97, 47, 116, 101, 103, 117, 108, 97, 108, 97, 119, 49, 50, 46, 67, 97, 99, 104, 101, 71, 105, 118, 101, 110, 32, 116, 101, 103, 117, 108, 97, 47, 116, 101, 103, 117, 108, 97, 108, 97, 119, 49, 50, 46, 67, 97, 99, 104, 101, 83, 116, 101, 112, 115, 32, 116, 101, 103, 117, 108, 97, 47, 116, 101, 103, 117, 108, 97, 108, 97, 119, 49, 50, 46, 67, 97, 99, 104, 101, 67, 117, 116, 32, 116, 101, 103, 117, 108, 97, 47, 116, 101, 103, 117, 108, 97, 108, 97, 119, 49, 50, 46, 67, 97, 99, 104, 101, 70, 108, 117, 115, 104, 32, 116, 101, 103, 117, 108, 97, 47, 116, 101, 103, 117, 108, 97, 108, 97, 119, 49, 50, 46, 67, 97, 99, 104, 101, 67, 108, 111, 110, 101, 32, 116, 101, 103, 117, 108, 97, 47, 116, 101, 103, 117, 108, 97, 108, 97, 119, 49, 50, 46, 67, 97, 99, 104, 101, 78, 105, 108, 32, 116, 101, 103, 117, 108, 97, 47, 116, 101, 103, 117, 108, 97, 108, 97, 119, 49, 52, 46, 68, 105, 115, 107, 78, 101, 119, 32, 116, 101, 103, 117, 108, 97, 47, 116, 101, 103, 117, 108, 97, 108, 97, 119, 49, 52, 46, 68, 105, 115, 107, 83, 116, 97, 121, 115, 32, 116, 101, 103, 117, 108, 97, 47, 116, 101, 103, 117, 108, 97, 108, 97, 119, 49, 52, 46, 68, 105, 115, 107, 68, 117, 114, 97, 98, 108, 101, 32, 116, 101, 103, 117, 108, 97, 47, 116, 101, 103, 117, 108, 97, 108, 97, 119, 49, 52, 46, 68, 105, 115, 107, 70, 101, 110, 99, 101, 115, 32, 116, 101, 103, 117, 108, 97, 47, 116, 101, 103, 117, 108, 97, 108, 97, 119, 49, 52, 46, 68, 105, 115, 107, 65, 99, 116, 115, 32, 116, 101, 103, 117, 108, 97, 47, 116, 101, 103, 117, 108, 97, 108, 97, 119, 49, 52, 46, 68, 105, 115, 107, 78, 105, 108]
theorem label_eq : Try.prog.initOrder = String.ofList (labelNats.map Char.ofNat) := by kernel_rfl
theorem label_list : Try.prog.initOrder.toList = labelNats.map Char.ofNat := by rw [label_eq, String.toList_ofList]
/-- The label's words behind the harness's own. -/
def labelWords : List (List Char) := behindMainWord (wordsSigns (labelNats.map Char.ofNat))
theorem labelWords_at : labelWords = "cut".toList :: labelWords.tail := by
  have h : labelWords.head? = some "cut".toList := by kernel_rfl
  cases hl : labelWords with
  | nil => rw [hl] at h; cases h
  | cons a l => rw [hl] at h; simp only [List.head?_cons, Option.some.injEq] at h; rw [h]; rfl
theorem label_words : behindMainWord (wordsSigns Try.prog.initOrder.toList) = "cut".toList :: labelWords.tail := by
  rw [label_list]; exact labelWords_at
theorem strip_cut (l : List (List Char)) : stripLifts liftWords ("cut".toList :: l) = ([], "cut".toList :: l) := by kernel_rfl
theorem headLifts_of (P : Program) (l : List (List Char)) (h : behindMainWord (wordsSigns P.initOrder.toList) = "cut".toList :: l) : P.headLifts = [] := by
  unfold Program.headLifts; rw [h, strip_cut]; rfl
theorem mayEnter_of (P : Program) (l : List (List Char)) (h : behindMainWord (wordsSigns P.initOrder.toList) = "cut".toList :: l) (h1 : P.laysLater = false) (h2 : P.bearsReflect = false) (h3 : P.doorFits [] = true) : P.mayEnter = true := by
  unfold Program.mayEnter
  rw [h]
  simp only [strip_cut, h1, h2, h3]
  simp
theorem liftsFinal_of (P : Program) (l : List (List Char)) (h : behindMainWord (wordsSigns P.initOrder.toList) = "cut".toList :: l) : P.liftsFinal = false := by
  unfold Program.liftsFinal
  simp only [headLifts_of P l h, h]
  simp
theorem make_of (P : Program) (l : List (List Char)) (h : behindMainWord (wordsSigns P.initOrder.toList) = "cut".toList :: l) : P.make = some .cut := by
  unfold Program.make
  simp only [h]
  simp
theorem laysLater_ok : Try.prog.laysLater = false := by kernel_rfl
theorem bearsReflect_ok : Try.prog.bearsReflect = false := by kernel_rfl
theorem doorFits_ok : Try.prog.doorFits [] = true := by kernel_rfl
theorem mayEnter_ok : Try.prog.mayEnter = true := mayEnter_of _ _ label_words laysLater_ok bearsReflect_ok doorFits_ok
theorem liftsFinal_ok : Try.prog.liftsFinal = false := liftsFinal_of _ _ label_words
theorem make_ok : Try.prog.make = some .cut := make_of _ _ label_words
end Go.Proofs.Ytmloiifnadaaoaa
