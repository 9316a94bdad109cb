/- What the seat's head says of the program: its words, letter by letter. -/
import Derived.Test.YthblmkailhdhlaaRows
import Derived.JoinedOf
import Derived.ProofKit
namespace Go.Proofs.Ythblmkailhdhlaa
def headA : List Char := [104, 97, 114, 110, 101, 115, 115, 32, 100, 48, 101, 48, 57, 99, 53, 48, 102, 99, 54, 55, 100, 53, 50, 48, 52, 101, 101, 98, 101, 50, 48, 101, 55, 54, 54, 57, 56, 52, 49, 102, 97, 51, 57, 99, 99, 52, 53, 49, 48, 57, 99, 48, 51, 101, 53, 57, 56, 56, 57, 99, 54, 54, 53, 56, 52, 102, 48, 57, 100, 101, 52, 49, 32, 99, 117, 116, 32].map Char.ofNat
def headB : List Char := [97, 116, 32, 113, 117, 97, 114, 116, 101, 114, 109, 97, 115, 116, 101, 114, 47, 113, 117, 97, 114, 116, 101, 114, 109, 97, 115, 116, 101, 114, 108, 97, 119, 48, 49, 46, 71, 102, 80, 97, 114, 116, 115, 32, 113, 117, 97, 114, 116, 101, 114, 109, 97, 115, 116, 101, 114, 47, 113, 117, 97, 114, 116, 101, 114, 109, 97, 115, 116, 101, 114, 108, 97, 119, 48, 49, 46, 71, 102, 80, 111, 119, 101, 114, 115, 32, 113, 117, 97, 114, 116, 101, 114, 109, 97, 115, 116, 101, 114, 47, 113, 117, 97, 114, 116, 101, 114, 109, 97, 115, 116, 101, 114, 108, 97, 119, 48, 49, 46, 71, 102, 66, 97, 99, 107, 32, 113, 117, 97, 114, 116, 101, 114, 109, 97, 115, 116, 101, 114, 47, 113, 117, 97, 114, 116, 101, 114, 109, 97, 115, 116, 101, 114, 108, 97, 119, 48, 49, 46, 71, 102, 76, 111, 103, 115, 32, 113, 117, 97, 114, 116, 101, 114, 109, 97, 115, 116, 101, 114, 47, 113, 117, 97, 114, 116, 101, 114, 109, 97, 115, 116, 101, 114, 108, 97, 119, 48, 49, 46, 71, 102, 78, 111, 110, 101, 32, 113, 117, 97, 114, 116, 101, 114, 109, 97, 115, 116, 101, 114, 47, 113, 117, 97, 114, 116, 101, 114, 109, 97, 115, 116, 101, 114, 108, 97, 119, 48, 49, 46, 71, 102, 83, 117, 109, 115, 32, 113, 117, 97, 114, 116, 101, 114, 109, 97, 115, 116, 101, 114, 47, 113, 117, 97, 114, 116, 101, 114, 109, 97, 115, 116, 101, 114, 108, 97, 119, 48, 49, 46, 71, 102, 70, 105, 101, 108, 100, 32, 113, 117, 97, 114, 116, 101, 114, 109, 97, 115, 116, 101, 114, 47, 113, 117, 97, 114, 116, 101, 114, 109, 97, 115, 116, 101, 114, 108, 97, 119, 48, 50, 46, 77, 97, 116, 77, 97, 107, 101, 115, 32, 113, 117, 97, 114, 116, 101, 114, 109, 97, 115, 116, 101, 114, 47, 113, 117, 97, 114, 116, 101, 114, 109, 97, 115, 116, 101, 114, 108, 97, 119, 48, 50, 46, 77, 97, 116, 73, 110, 118, 101, 114, 116, 115, 32, 113, 117, 97, 114, 116, 101, 114, 109, 97, 115, 116, 101, 114, 47, 113, 117, 97, 114, 116, 101, 114, 109, 97, 115, 116, 101, 114, 108, 97, 119, 48, 50, 46, 77, 97, 116, 80, 114, 111, 100, 117, 99, 116, 115, 32, 113, 117, 97, 114, 116, 101, 114, 109, 97, 115, 116, 101, 114, 47, 113, 117, 97, 114, 116, 101, 114, 109, 97, 115, 116, 101, 114, 108, 97, 119, 48, 50, 46, 77, 97, 116, 82, 111, 119, 115, 32, 113, 117, 97, 114, 116, 101, 114, 109, 97, 115, 116, 101, 114, 47, 113, 117, 97, 114, 116, 101, 114, 109, 97, 115, 116, 101, 114, 108, 97, 119, 48, 50, 46, 77, 97, 116, 79, 114, 100, 101, 114, 32, 113, 117, 97, 114, 116, 101, 114, 109, 97, 115, 116, 101, 114, 47, 113, 117, 97, 114, 116, 101, 114, 109, 97, 115, 116, 101, 114, 108, 97, 119, 48, 50, 46, 77, 97, 116, 79, 110, 101, 32, 113, 117, 97, 114, 116, 101, 114, 109, 97, 115, 116, 101, 114, 47, 113, 117, 97, 114, 116, 101, 114, 109, 97, 115, 116, 101, 114, 108, 97, 119, 48, 51, 46, 82, 115, 69, 110, 99, 111, 100, 101, 115, 32, 113, 117, 97, 114, 116, 101, 114, 109, 97, 115, 116, 101, 114, 47, 113, 117, 97, 114, 116, 101, 114, 109, 97, 115, 116, 101, 114, 108, 97, 119, 48, 51, 46, 82, 115, 68, 101, 99, 111, 100, 101, 115, 32, 113, 117, 97, 114, 116, 101, 114, 109, 97, 115, 116, 101, 114, 47, 113, 117, 97, 114, 116, 101, 114, 109, 97, 115, 116, 101, 114, 108, 97, 119, 48, 51, 46, 82, 115, 66, 97, 99, 107, 32, 113, 117, 97, 114, 116, 101, 114, 109, 97, 115, 116, 101, 114, 47, 113, 117, 97, 114, 116, 101, 114, 109, 97, 115, 116, 101, 114, 108, 97, 119, 48, 51, 46, 82, 115, 80, 97, 114, 116, 115, 32, 113, 117, 97, 114, 116, 101, 114, 109, 97, 115, 116, 101, 114, 47, 113, 117, 97, 114, 116, 101, 114, 109, 97, 115, 116, 101, 114, 108, 97, 119, 48, 51, 46, 82, 115, 79, 119, 110, 32, 113, 117, 97, 114, 116, 101, 114, 109, 97, 115, 116, 101, 114, 47, 113, 117, 97, 114, 116, 101, 114, 109, 97, 115, 116, 101, 114, 108, 97, 119, 48, 51, 46, 82, 115, 65, 110, 121, 32, 113, 117, 97, 114, 116, 101, 114, 109, 97, 115, 116, 101, 114, 47, 113, 117, 97, 114, 116, 101, 114, 109, 97, 115, 116, 101, 114, 108, 97, 119, 48, 51, 46, 82, 115, 83, 117, 109, 115].map Char.ofNat
theorem head_is : Try.prog.initOrder = String.ofList (headA ++ headB) := by kernel_rfl
theorem head_list : Try.prog.initOrder.toList = headA ++ headB := by rw [head_is, String.toList_ofList]
theorem head_word (r : List Char) : behindMainWord (wordsSigns (headA ++ r)) = "cut".toList :: wordsSigns r := by kernel_rfl
theorem head_words : behindMainWord (wordsSigns Try.prog.initOrder.toList) = "cut".toList :: wordsSigns headB := by rw [head_list, head_word]
theorem cut_gc : ("cut".toList == "gc".toList) = false := by kernel_rfl
theorem cut_spec : ("cut".toList == "spec".toList) = false := by kernel_rfl
theorem cut_carried : ("cut".toList == "carried".toList) = false := by kernel_rfl
theorem cut_cut : ("cut".toList == "cut".toList) = true := by rw [beq_self_eq_true]
theorem make_of (P : Program) (t : List (List Char)) (h : behindMainWord (wordsSigns P.initOrder.toList) = "cut".toList :: t) : P.make = some .cut := by
  unfold Program.make
  rw [h]
  show (if ("cut".toList == "gc".toList || "cut".toList == "spec".toList) = true then _ else _) = _
  rw [cut_gc, cut_spec]
  rw [Bool.or_self, if_neg (by decide), cut_cut, Bool.true_or, if_pos rfl]
theorem head_make : Try.prog.make = some .cut := make_of _ _ head_words
theorem head_lifts : Try.prog.liftsFinal = false := by
  unfold Program.liftsFinal Program.headLifts
  rw [head_words]
  generalize wordsSigns headB = t
  kernel_rfl
theorem strip_cut (t : List (List Char)) : stripLifts liftWords ("cut".toList :: t) = ([], "cut".toList :: t) := by kernel_rfl
theorem lays_later : Try.prog.laysLater = false := by kernel_rfl
theorem bears_reflect : Try.prog.bearsReflect = false := by kernel_rfl
theorem door_rows : Try.prog.doorRows = [] := by kernel_rfl
theorem door_fits (P : Program) (h : P.doorRows = []) : P.doorFits [] = true := by
  unfold Program.doorFits
  rw [h]
  rfl
theorem enters_of (P : Program) (t : List (List Char)) (h : behindMainWord (wordsSigns P.initOrder.toList) = "cut".toList :: t) (h1 : P.laysLater = false) (h2 : P.bearsReflect = false) (h3 : P.doorFits [] = true) : P.mayEnter = true := by
  unfold Program.mayEnter
  rw [h]
  simp only [strip_cut, h1, h2, h3]
  simp
theorem head_enters : Try.prog.mayEnter = true := enters_of _ _ head_words lays_later bears_reflect (door_fits _ door_rows)
theorem and2 {a b : Bool} (ha : a = true) (hb : b = true) : (a && b) = true := by rw [ha, hb]; rfl
end Go.Proofs.Ythblmkailhdhlaa
