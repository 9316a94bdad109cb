/- Walks over package gf: the closure of New, powers, New, tables. -/
import Derived.Test.YthblmkailhdhlaaProg
import Derived.WalkKit
import Derived.WalkSpells
import Derived.WalkLawsBesides
import Derived.Laws.BitsAllLaws
import Derived.Deep.LoopGhost
import Derived.Lib.Hide
import Derived.Test.YthblmkailhdhlaaF
namespace Go.Proofs.Ythblmkailhdhlaa.Gf
set_option linter.unusedVariables false
open Go.RowKit Go.Proofs.Ythblmkailhdhlaa.F

/-- Only the block b has changed: it is C now. -/
structure PutTo (b : Nat) (C : Array Value) (w w' : World) : Prop where
  os : w'.os = w.os
  tape : w'.tape = w.tape
  output : w'.output = w.output
  size : w'.heap.size = w.heap.size
  block : w'.heap[b]? = some (.cells C 39 (0, 0))
  other : ∀ k, k ≠ b → w'.heap[k]? = w.heap[k]?

theorem PutTo.set {b : Nat} {C : Array Value} {w w' : World} (h : PutTo b C w w') (o : Nat) (v : Value) : PutTo b (C.setIfInBounds o v) w (w'.setCell ⟨b, o, none⟩ v) :=
  ⟨h.os, h.tape, h.output, by simp [World.setCell, h.size], by simp [World.setCell, Array.getElem?_modify, h.block], fun k hk => by
    rw [Below.heap_setCell _ _ _ _ hk]; exact h.other k hk⟩
theorem PutTo.drew {b : Nat} {C : Array Value} {w w' : World} (h : PutTo b C w w') : PutTo b C w w'.drew := ⟨h.os, h.tape, h.output, h.size, h.block, h.other⟩
theorem PutTo.trans {b : Nat} {C C' : Array Value} {w w' w'' : World} (h : PutTo b C w w') (h' : PutTo b C' w' w'') : PutTo b C' w w'' :=
  ⟨h'.os.trans h.os, h'.tape.trans h.tape, h'.output.trans h.output, h'.size.trans h.size, h'.block, fun k hk => (h'.other k hk).trans (h.other k hk)⟩

set_option maxHeartbeats 1000000 in
theorem put_calls (n a : Nat) (hn : n < 255) (ha : a < 256) (C : Array Value) (hC : C.size = 767) (fb cb : Nat) (w : World)
    (hf : w.heap[fb]? = some (.cells C 39 (0, 0))) (hc : w.heap[cb]? = some (.cells #[.pointer (some ⟨fb, 0, none⟩)] 23 (0, 0))) :
    Calls Try.prog 58 #[.int .i64 n, .int .u8 a, .pointer (some ⟨cb, 0, none⟩)] w fun e w' => e = .returned (.tuple #[]) ∧ PutTo fb (((C.setIfInBounds n (.int .u8 a)).setIfInBounds (n + 255) (.int .u8 a)).setIfInBounds (510 + a) (.int .i64 n)) w w' := by
  have hne : cb ≠ fb := by
    rintro rfl
    rw [hf] at hc
    injection hc with hc
    injection hc with _ hc
    cases hc
  have h0 : PutTo fb C w w := ⟨rfl, rfl, rfl, rfl, hf, fun _ _ => rfl⟩
  have H0 := Lib.hid h0
  clear h0
  have hp := cell_of_one hc
  have c1 : w.cell? ⟨fb, n, none⟩ = some (C[n]'(by omega)) := by simp [World.cell?, hf]
  have c2 : w.cell? ⟨fb, n + 255, none⟩ = some (C[n + 255]'(by omega)) := by simp [World.cell?, hf]
  have c3 : w.cell? ⟨fb, 510 + a, none⟩ = some (C[510 + a]'(by omega)) := by simp [World.cell?, hf]
  have f1 : w.frozen? ⟨fb, n, none⟩ = false := by simp [World.frozen?, hf]
  have f2 : w.frozen? ⟨fb, n + 255, none⟩ = false := by simp [World.frozen?, hf]
  have f3 : w.frozen? ⟨fb, 510 + a, none⟩ = false := by simp [World.frozen?, hf]
  clear hf hc
  go_enter Try.func58, Try.ntmps58
  go_wp2
  go_region
  all_goals go_wp2
  all_goals go_end0
  all_goals exact ⟨rfl, (((H0.out.set _ _).set _ _).set _ _).drew⟩

/-- The tables' cells, n powers of which have been laid. -/
def tabAt (n : Nat) : Array Value :=
  (((List.range 510).map fun i => Value.int .u8 (eAt n i)) ++ ((List.range 256).map fun v => Value.int .i64 (lAt n v)) ++ [Value.bool true]).toArray
theorem tabAt_size (n : Nat) : (tabAt n).size = 767 := by simp [tabAt]
theorem tabAt_get (n i : Nat) : (tabAt n)[i]? = if i < 510 then some (.int .u8 (eAt n i)) else if i < 766 then some (.int .i64 (lAt n (i - 510))) else if i = 766 then some (.bool true) else none := by
  unfold tabAt
  rw [List.getElem?_toArray]
  by_cases h1 : i < 510
  · rw [if_pos h1, List.getElem?_append_left (by simp; omega), List.getElem?_append_left (by simp; omega), List.getElem?_map, List.getElem?_range h1]; rfl
  · rw [if_neg h1]
    by_cases h2 : i < 766
    · rw [if_pos h2, List.getElem?_append_left (by simp; omega), List.getElem?_append_right (by simp; omega), List.getElem?_map]
      simp only [List.length_map, List.length_range]
      rw [List.getElem?_range (by omega)]; rfl
    · rw [if_neg h2, List.getElem?_append_right (by simp; omega)]
      simp only [List.length_append, List.length_map, List.length_range]
      by_cases h3 : i = 766
      · subst h3; rfl
      · rw [if_neg h3]
        rw [List.getElem?_eq_none]
        simp; omega
theorem tabAt_step (n : Nat) (hn : n < 255) : (((tabAt n).setIfInBounds n (.int .u8 (pw n))).setIfInBounds (n + 255) (.int .u8 (pw n))).setIfInBounds (510 + pw n) (.int .i64 n) = tabAt (n + 1) := by
  apply Array.ext_getElem?
  intro i
  have hp := pw_lt n
  rw [tabAt_get, Array.getElem?_setIfInBounds, Array.getElem?_setIfInBounds, Array.getElem?_setIfInBounds, tabAt_get]
  simp only [Array.size_setIfInBounds, tabAt_size]
  by_cases h1 : i < 510
  · rw [if_neg (show ¬ 510 + pw n = i by omega), if_pos h1, if_pos h1, eAt_succ n i hn h1]
    by_cases h2 : n + 255 = i
    · rw [if_pos h2, if_pos (show n + 255 < 767 by omega), if_pos h2.symm]
    · rw [if_neg h2, if_neg (show ¬ i = n + 255 by omega)]
      by_cases h3 : n = i
      · rw [if_pos h3, if_pos (show n < 767 by omega), if_pos h3.symm]
      · rw [if_neg h3, if_neg (show ¬ i = n by omega)]
  · rw [if_neg h1, if_neg h1, if_neg (show ¬ n + 255 = i by omega), if_neg (show ¬ n = i by omega)]
    by_cases h2 : i < 766
    · rw [if_pos h2, if_pos h2]
      by_cases h3 : 510 + pw n = i
      · rw [if_pos h3, if_pos (by omega)]
        have : i - 510 = pw n := by omega
        rw [this]; unfold lAt; rw [if_pos rfl]
      · rw [if_neg h3]
        show some (Value.int .i64 (lAt n (i - 510))) = some (Value.int .i64 (lAt (n + 1) (i - 510)))
        conv => rhs; unfold lAt
        rw [if_neg (by omega)]
    · rw [if_neg h2, if_neg h2, if_neg (by omega)]

theorem i64_xor_poly (p : Nat) (h : p < 256) : bits .xor .i64 ((p : Int) * 2) 285 = (((2 * p) ^^^ 285 : Nat) : Int) := by
  have h1 : ∀ p : Fin 256, bits .xor .i64 ((p.val : Int) * 2) 285 = (((2 * p.val) ^^^ 285 : Nat) : Int) := by decide +kernel
  exact h1 ⟨p, h⟩
set_option maxRecDepth 100000 in
set_option maxHeartbeats 1000000 in
theorem powers_calls (fb cb : Nat) (w : World)
    (hf : w.heap[fb]? = some (.cells (tabAt 0) 39 (0, 0))) (hc : w.heap[cb]? = some (.cells #[.pointer (some ⟨fb, 0, none⟩)] 23 (0, 0))) :
    Calls Try.prog 57 #[.func (.func 58) #[] #[.pointer (some ⟨cb, 0, none⟩)]] w fun e w' => e = .returned (.tuple #[]) ∧ PutTo fb (tabAt 255) w w' := by
  have hne : cb ≠ fb := by
    rintro rfl
    rw [hf] at hc
    injection hc with hc
    injection hc with _ hc
    cases hc
  have h0 : PutTo fb (tabAt 0) w w := ⟨rfl, rfl, rfl, rfl, hf, fun _ _ => rfl⟩
  have H0 := Lib.hid h0
  have HC := Lib.hid hc
  clear h0 hc hf
  go_enter Try.func57, Try.ntmps57
  go_wp2
  go_loopw [2, 4] (fun v2 v4 wr => ∃ n p : Nat, n ≤ 255 ∧ p < 256 ∧ v4 = .int .i64 n ∧ v2 = .int .i64 p ∧ Hid (p = pw n) ∧ Hid (PutTo fb (tabAt n) w wr)) (fun _ v _ => 255 - (intOf v).toNat)
  case atStart => exact ⟨0, 1, by omega, by omega, rfl, rfl, rfl, H0⟩
  case round =>
    obtain ⟨n, p, hn, hp, rfl, rfl, HP, HW⟩ := hrel
    by_cases hlt : n < 255
    · have H1 : Hid (wr.heap[cb]? = some (.cells #[.pointer (some ⟨fb, 0, none⟩)] 23 (0, 0))) := (HW.out.other cb hne).trans HC.out
      have hx : bits .xor .i64 ((p : Int) * 2) 285 = (((2 * p) ^^^ 285 : Nat) : Int) := i64_xor_poly p hp
      have HN : ∀ w1, PutTo fb ((((tabAt n).setIfInBounds n (Value.int IntKind.u8 ↑p)).setIfInBounds (n + 255) (Value.int IntKind.u8 ↑p)).setIfInBounds (510 + p) (Value.int IntKind.i64 ↑n)) wr w1 → Hid (PutTo fb (tabAt (n + 1)) w w1) := by
        intro w1 h
        rw [HP.out, tabAt_step n hlt] at h
        exact HW.out.trans h
      have HN' := Lib.hid HN
      clear HN
      by_cases hb : 255 < (p : Int) * 2
      · have HX : Hid (2 * p ^^^ 285 = pw (n + 1)) := by
          have h : 2 * p ^^^ 285 = xt p := by unfold xt; rw [if_pos (by omega)]
          show _ = _
          rw [h, HP.out]; rfl
        have HL : Hid (2 * p ^^^ 285 < 256) := by
          show _ < _
          rw [HX.out]; exact pw_lt _
        go_wp2_with fail
        refine (put_calls n p hlt hp (tabAt n) (tabAt_size n) fb cb _ HW.out.block H1.out).mono ?_
        rintro e w1 ⟨rfl, hput⟩
        have HU := HN'.out w1 hput
        clear hput
        go_wp2_with fail
        go_roundw
        case rel => exact ⟨n + 1, 2 * p ^^^ 285, by omega, HL.out, by go_num, rfl, HX, HU⟩
        case measure => simp [intOf]; omega
      · have HX : Hid (2 * p = pw (n + 1)) := by
          have h : 2 * p = xt p := by unfold xt; rw [if_neg (by omega)]
          show _ = _
          rw [h, HP.out]; rfl
        go_wp2_with fail
        refine (put_calls n p hlt hp (tabAt n) (tabAt_size n) fb cb _ HW.out.block H1.out).mono ?_
        rintro e w1 ⟨rfl, hput⟩
        have HU := HN'.out w1 hput
        clear hput
        go_wp2_with fail
        go_roundw
        case rel => exact ⟨n + 1, 2 * p, by omega, by omega, by go_num, by go_num, HX, HU⟩
        case measure => simp [intOf]; omega
    · go_wp2
      go_end0
      have h : n = 255 := by omega
      have h' := HW.out
      rw [h] at h'
      exact ⟨rfl, h'⟩

/-- The field's tables. -/
def tab : Array Value := tabAt 255
def tab0 : Array Value := tabAt 0

/-- The address leads to the field's tables. -/
def Tab (w : World) (b : Nat) : Prop := w.heap[b]? = some (.cells tab 39 (0, 0))

theorem new_heap1 (w : World) (o o' : Obj) : ((w.alloc o).alloc o').heap[w.heap.size]? = some o := by
  rw [Below.heap_alloc _ _ _ (by simp)]
  show (w.heap.push o)[_]? = _
  simp
theorem new_heap2 (w : World) (o o' : Obj) : ((w.alloc o).alloc o').heap[w.heap.size + 1]? = some o' := by
  show ((w.heap.push o).push o')[_]? = _
  rw [Array.getElem?_push]
  simp

theorem zero_tab : Try.zeroCells39.setIfInBounds 766 (.bool true) = tabAt 0 := by kernel_rfl

theorem below_put {w w' : World} {o o' : Obj} {C : Array Value} (h : PutTo w.heap.size C ((w.alloc o).alloc o') w') : Below w.heap.size w w' :=
  (((Below.refl w.heap.size w).alloc (Nat.le_refl _) o).alloc (by simp) o').trans ⟨h.os, h.tape, h.output, by rw [h.size]; exact Nat.le_refl _, fun k hk => h.other k (by omega)⟩

set_option maxRecDepth 100000 in
set_option maxHeartbeats 1000000 in
theorem new_calls (w : World) :
    Calls Try.prog 24 #[] w fun e w' => e = .returned (.pointer (some ⟨w.heap.size, 0, none⟩)) ∧ Tab w' w.heap.size ∧ Below w.heap.size w w' := by
  have HB : Hid (∀ w1, PutTo w.heap.size (tabAt 255) ((w.alloc (Obj.cells (tabAt 0) 39)).alloc (Obj.cells #[Value.pointer (some { block := w.heap.size, off := 0 })] 23)) w1 → Below w.heap.size w w1 ∧ Tab w1 w.heap.size ∧ w1.cell? ⟨w.heap.size + 1, 0, none⟩ = some (.pointer (some ⟨w.heap.size, 0, none⟩))) := fun w1 h =>
    ⟨below_put h, h.block, cell_of_one ((h.other _ (by omega)).trans (new_heap2 _ _ _))⟩
  go_enter Try.func24, Try.ntmps24
  go_wp2_with fail
  rw [zero_tab]
  refine (powers_calls w.heap.size (w.heap.size + 1) _ (new_heap1 _ _ _) (new_heap2 _ _ _)).mono ?_
  rintro e w1 ⟨rfl, hp⟩
  obtain ⟨hb, ht, hc⟩ := HB.out w1 hp
  have HU := Lib.hid hb
  have HT := Lib.hid ht
  clear hp hb ht
  go_wp2_with fail
  go_ret
  exact ⟨rfl, HT.out, HU.out⟩

/-- What an address of a field leads to: nothing, the tables, or nothing but noughts. -/
def FieldAt (w : World) (p : Option Addr) : Prop :=
  p = none ∨ (∃ b, p = some ⟨b, 0, none⟩ ∧ Tab w b) ∨ ∃ b, p = some ⟨b, 0, none⟩ ∧ w.heap[b]? = some (.cells Try.zeroCells39 39 (0, 0))

theorem tab_get (i : Nat) : tab[i]? = if i < 510 then some (.int .u8 (pw i)) else if i < 766 then some (.int .i64 (lg (i - 510))) else if i = 766 then some (.bool true) else none := by
  unfold tab
  rw [tabAt_get]
  by_cases h : i < 510
  · rw [if_pos h, if_pos h, eAt_255 h]
  · rw [if_neg h, if_neg h]; rfl
theorem cell_block {w : World} {b t : Nat} {C : Array Value} (h : w.heap[b]? = some (.cells C t (0, 0))) (i : Nat) : w.cell? ⟨b, i, none⟩ = C[i]? := by
  show (match w.heap[b]? with | some (.cells c _ _) => _ | _ => _) = _
  rw [h]; rfl
theorem Tab.exp {w : World} {b : Nat} (h : Tab w b) {i : Nat} (hi : i < 510) : w.cell? ⟨b, i, none⟩ = some (.int .u8 (pw i)) := by
  rw [cell_block h, tab_get, if_pos hi]
theorem Tab.log {w : World} {b : Nat} (h : Tab w b) {i : Nat} (hi : i < 256) : w.cell? ⟨b, 510 + i, none⟩ = some (.int .i64 (lg i)) := by
  rw [cell_block h, tab_get, if_neg (by omega), if_pos (by omega), show 510 + i - 510 = i by omega]
theorem Tab.made {w : World} {b : Nat} (h : Tab w b) : w.cell? ⟨b, 766, none⟩ = some (.bool true) := by
  rw [cell_block h, tab_get, if_neg (by omega), if_neg (by omega), if_pos rfl]
theorem Tab.below {w w' : World} {b : Nat} (h : Tab w b) (hb : Below w.heap.size w w') : Tab w' b := by
  have hl : b < w.heap.size := (Array.getElem?_eq_some_iff.1 h).1
  exact (hb.block b hl).trans h
theorem zero_made {w : World} {b : Nat} (h : w.heap[b]? = some (.cells Try.zeroCells39 39 (0, 0))) : w.cell? ⟨b, 766, none⟩ = some (.bool false) := by
  have h1 : Try.zeroCells39[766]? = some (.bool false) := by kernel_rfl
  rw [cell_block h, h1]
end Go.Proofs.Ythblmkailhdhlaa.Gf
