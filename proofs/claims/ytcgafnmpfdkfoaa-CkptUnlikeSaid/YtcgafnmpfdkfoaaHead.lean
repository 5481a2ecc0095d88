/- What a row asks of the program's head alone: shown by its first words, the rest left unread (as one closed fact it outgrows the kernel's memory: the head names 21 laws). -/
import Derived.Test.YtcgafnmpfdkfoaaRows
import Derived.JoinedOf
import Derived.KernelRfl
namespace Go.Proofs.Ytcgafnmpfdkfoaa
open Go

theorem words_cons (l r : List Char) (h : ∀ c ∈ l, c ≠ Char.ofNat 32) : wordsSigns (l ++ Char.ofNat 32 :: r) = l :: wordsSigns r := by
  induction l with
  | nil => rfl
  | cons c l ih =>
    have hc : c ≠ Char.ofNat 32 := h c List.mem_cons_self
    have := ih (fun x hx => h x (List.mem_cons_of_mem _ hx))
    show wordsSigns (c :: (l ++ Char.ofNat 32 :: r)) = _
    rw [wordsSigns, this]
    intro hc'
    exact hc hc'
set_option maxRecDepth 100000 in
theorem head_split : ∃ r, Try.prog.initOrder = String.ofList (Char.ofNat 104 :: Char.ofNat 97 :: Char.ofNat 114 :: Char.ofNat 110 :: Char.ofNat 101 :: Char.ofNat 115 :: Char.ofNat 115 :: Char.ofNat 32 :: Char.ofNat 52 :: Char.ofNat 54 :: Char.ofNat 97 :: Char.ofNat 49 :: Char.ofNat 52 :: Char.ofNat 55 :: Char.ofNat 57 :: Char.ofNat 51 :: Char.ofNat 97 :: Char.ofNat 99 :: Char.ofNat 55 :: Char.ofNat 101 :: Char.ofNat 48 :: Char.ofNat 97 :: Char.ofNat 100 :: Char.ofNat 51 :: Char.ofNat 98 :: Char.ofNat 50 :: Char.ofNat 56 :: Char.ofNat 97 :: Char.ofNat 51 :: Char.ofNat 98 :: Char.ofNat 101 :: Char.ofNat 102 :: Char.ofNat 53 :: Char.ofNat 55 :: Char.ofNat 54 :: Char.ofNat 50 :: Char.ofNat 97 :: Char.ofNat 48 :: Char.ofNat 97 :: Char.ofNat 54 :: Char.ofNat 48 :: Char.ofNat 57 :: Char.ofNat 57 :: Char.ofNat 97 :: Char.ofNat 52 :: Char.ofNat 100 :: Char.ofNat 97 :: Char.ofNat 49 :: Char.ofNat 50 :: Char.ofNat 57 :: Char.ofNat 49 :: Char.ofNat 98 :: Char.ofNat 49 :: Char.ofNat 99 :: Char.ofNat 55 :: Char.ofNat 49 :: Char.ofNat 57 :: Char.ofNat 48 :: Char.ofNat 53 :: Char.ofNat 56 :: Char.ofNat 50 :: Char.ofNat 51 :: Char.ofNat 55 :: Char.ofNat 57 :: Char.ofNat 97 :: Char.ofNat 101 :: Char.ofNat 98 :: Char.ofNat 53 :: Char.ofNat 53 :: Char.ofNat 101 :: Char.ofNat 53 :: Char.ofNat 52 :: Char.ofNat 32 :: Char.ofNat 99 :: Char.ofNat 117 :: Char.ofNat 116 :: Char.ofNat 32 :: r) := ⟨_, rfl⟩
noncomputable def headRest : List Char := Classical.choose head_split
noncomputable def headSum : List Char := [Char.ofNat 52, Char.ofNat 54, Char.ofNat 97, Char.ofNat 49, Char.ofNat 52, Char.ofNat 55, Char.ofNat 57, Char.ofNat 51, Char.ofNat 97, Char.ofNat 99, Char.ofNat 55, Char.ofNat 101, Char.ofNat 48, Char.ofNat 97, Char.ofNat 100, Char.ofNat 51, Char.ofNat 98, Char.ofNat 50, Char.ofNat 56, Char.ofNat 97, Char.ofNat 51, Char.ofNat 98, Char.ofNat 101, Char.ofNat 102, Char.ofNat 53, Char.ofNat 55, Char.ofNat 54, Char.ofNat 50, Char.ofNat 97, Char.ofNat 48, Char.ofNat 97, Char.ofNat 54, Char.ofNat 48, Char.ofNat 57, Char.ofNat 57, Char.ofNat 97, Char.ofNat 52, Char.ofNat 100, Char.ofNat 97, Char.ofNat 49, Char.ofNat 50, Char.ofNat 57, Char.ofNat 49, Char.ofNat 98, Char.ofNat 49, Char.ofNat 99, Char.ofNat 55, Char.ofNat 49, Char.ofNat 57, Char.ofNat 48, Char.ofNat 53, Char.ofNat 56, Char.ofNat 50, Char.ofNat 51, Char.ofNat 55, Char.ofNat 57, Char.ofNat 97, Char.ofNat 101, Char.ofNat 98, Char.ofNat 53, Char.ofNat 53, Char.ofNat 101, Char.ofNat 53, Char.ofNat 52]
theorem head_is : Try.prog.initOrder.toList = [Char.ofNat 104, Char.ofNat 97, Char.ofNat 114, Char.ofNat 110, Char.ofNat 101, Char.ofNat 115, Char.ofNat 115] ++ Char.ofNat 32 :: (headSum ++ Char.ofNat 32 :: ([Char.ofNat 99, Char.ofNat 117, Char.ofNat 116] ++ Char.ofNat 32 :: headRest)) := by
  have h := Classical.choose_spec head_split
  rw [h, String.toList_ofList]
  rfl
theorem cut_list : "cut".toList = [Char.ofNat 99, Char.ofNat 117, Char.ofNat 116] := by kernel_rfl
theorem harness_list : "harness".toList = [Char.ofNat 104, Char.ofNat 97, Char.ofNat 114, Char.ofNat 110, Char.ofNat 101, Char.ofNat 115, Char.ofNat 115] := by kernel_rfl
theorem behind (h s : List Char) (r : List (List Char)) : behindMainWord (h :: s :: r) = if ((h == "harness".toList || h == "ownmain".toList) && isSumSigns s) = true then r else h :: s :: r := rfl
theorem head_words : behindMainWord (wordsSigns Try.prog.initOrder.toList) = "cut".toList :: wordsSigns headRest := by
  have h1 : ([Char.ofNat 104, Char.ofNat 97, Char.ofNat 114, Char.ofNat 110, Char.ofNat 101, Char.ofNat 115, Char.ofNat 115] : List Char).all (fun c => c != Char.ofNat 32) = true := by kernel_rfl
  have h2 : headSum.all (fun c => c != Char.ofNat 32) = true := by kernel_rfl
  have h3 : ([Char.ofNat 99, Char.ofNat 117, Char.ofNat 116] : List Char).all (fun c => c != Char.ofNat 32) = true := by kernel_rfl
  have no : ∀ l : List Char, l.all (fun c => c != Char.ofNat 32) = true → ∀ c ∈ l, c ≠ Char.ofNat 32 := fun l h c hc => by
    have := List.all_eq_true.1 h c hc
    simpa using this
  rw [head_is, words_cons _ _ (no _ h1), words_cons _ _ (no _ h2), words_cons _ _ (no _ h3), cut_list]
  have hs : isSumSigns headSum = true := by kernel_rfl
  have hh : (([Char.ofNat 104, Char.ofNat 97, Char.ofNat 114, Char.ofNat 110, Char.ofNat 101, Char.ofNat 115, Char.ofNat 115] : List Char) == "harness".toList) = true := by rw [harness_list]; kernel_rfl
  rw [behind, hh, hs]
  rfl
theorem strip_cut (l : List String) (r : List (List Char)) (h : l.all (fun o => !("cut".toList == o.toList)) = true) : stripLifts l ("cut".toList :: r) = ([], "cut".toList :: r) := by
  induction l with
  | nil => rfl
  | cons o l ih =>
    simp only [List.all_cons, Bool.and_eq_true, Bool.not_eq_true'] at h
    rw [stripLifts, ih h.2, h.1]
    rfl
theorem no_lift : liftWords.all (fun o => !("cut".toList == o.toList)) = true := by kernel_rfl
theorem not_carried : (some "cut".toList == some "carried".toList) = false := by kernel_rfl
theorem not_gc : ("cut".toList == "gc".toList) = false := by kernel_rfl
theorem not_spec : ("cut".toList == "spec".toList) = false := by kernel_rfl
theorem is_cut : ("cut".toList == "cut".toList) = true := by kernel_rfl
theorem not_carried' : ("cut".toList == "carried".toList) = false := by kernel_rfl
theorem some_cut : (some "cut".toList == some "cut".toList) = true := by kernel_rfl
section
variable {P : Program} {r : List (List Char)} (h : behindMainWord (wordsSigns P.initOrder.toList) = "cut".toList :: r)
include h
theorem lifts_of : P.liftsFinal = false := by
  unfold Program.liftsFinal Program.headLifts
  rw [h, strip_cut _ _ no_lift]
  simp only [List.head?_cons, not_carried, Bool.false_and, Bool.false_or, some_cut, if_true]
  rfl
theorem make_of : P.make = some .cut := by
  unfold Program.make
  rw [h]
  simp only [not_gc, not_spec, is_cut, Bool.or_false, Bool.true_or, if_true, Bool.false_eq_true, if_false]
theorem enter_of (h1 : (!P.laysLater) = true) (h2 : (!P.bearsReflect) = true) (h3 : P.doorFits [] = true) : P.mayEnter = true := by
  unfold Program.mayEnter
  rw [h]
  simp only [strip_cut _ _ no_lift, h1, h2, h3, List.head?_cons, not_gc, not_spec, not_carried', some_cut, Bool.or_false, Bool.false_and, Bool.false_or, Bool.and_true, Bool.or_true, Bool.true_and]
  rfl
end
theorem head_lifts : Try.prog.liftsFinal = false := lifts_of head_words
theorem head_make : Try.prog.make = some .cut := make_of head_words
theorem head_later : (!(Try.prog).laysLater) = true := by kernel_rfl
theorem head_reflect : (!(Try.prog).bearsReflect) = true := by kernel_rfl
theorem head_doors : (Try.prog).doorFits [] = true := by kernel_rfl
theorem head_enter : Try.prog.mayEnter = true := enter_of head_words head_later head_reflect head_doors
end Go.Proofs.Ytcgafnmpfdkfoaa
