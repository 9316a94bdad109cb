import Derived.Test.YthblmkailhdhlaaD1
import Derived.Deep.RegionWith
import Derived.Test.YthblmkailhdhlaaWApart
import Derived.Test.YthblmkailhdhlaaProg
import Derived.Below
import Derived.Deep.Draws
import Derived.Deep.AppendLies
import Derived.Maps.AppendAt
import Derived.OwnWalk
import Derived.Laws.BytesArg
import Derived.Laws.MakeOwn
import Derived.Laws.OwnMore
import Derived.Deep.OwnRows
import Derived.Tactics
import Derived.Lib.ConvBytes
import Derived.Laws.Slices
import Derived.WalkKit
import Derived.KernelRfl
import Derived.RowKit3
import Derived.Deep.LoopGhost
import Derived.Deep.QuietTactic
import Derived.BigQuiet
import Derived.WideLaws
import Derived.Deep.DeepCutAuto
import Derived.Deep.CutBlock
import Derived.Deep.RegionHeld3
import Derived.Laws.Rows
import Derived.Lib.AppendStr
import Derived.ArgAppend
import Derived.Laws.IdiomCopy
import Derived.OrdersHeld
import Derived.Laws.BitsLemmas
import Derived.RowKit
import Derived.Test.YthblmkailhdhlaaWWords
import Derived.Test.YthblmkailhdhlaaWLast
import Derived.Test.YthblmkailhdhlaaWTab
import Derived.Test.YthblmkailhdhlaaWQPut
import Derived.Test.YthblmkailhdhlaaWArr
import Derived.Test.YthblmkailhdhlaaWZeros
import Derived.Test.YthblmkailhdhlaaWFoot
import Derived.Test.YthblmkailhdhlaaWKept
import Derived.Test.YthblmkailhdhlaaWShare
import Derived.Test.YthblmkailhdhlaaWN
import Derived.Test.YthblmkailhdhlaaWRepsOne
import Derived.Test.YthblmkailhdhlaaWGuard
import Derived.Test.YthblmkailhdhlaaWNEv
import Derived.Test.YthblmkailhdhlaaWMore
import Derived.Laws.CopyRow
import Derived.Laws.CopyOwn
/- Walks over package mat: rows that are turned in place (times, add). -/
namespace Go.Proofs.Ythblmkailhdhlaa.Mat
set_option linter.unusedVariables false
open Go.RowKit Go.Proofs.Ythblmkailhdhlaa.F Go.Proofs.Ythblmkailhdhlaa.Gf Go.Proofs.YthblmkailhdhlaaW.PrintWords
/-- Numbers as bytes' values. -/
def vals (l : List Nat) : List Value := l.map fun (x : Nat) => .int .u8 (x : Int)
/-- A block that holds bytes, and nothing else. -/
def RowIs (w : World) (b : Nat) (l : List Nat) : Prop := w.heap[b]? = some (.cells (vals l).toArray 5 (0, 0))
/-- Only block b may have changed. -/
structure Only (b : Nat) (w w' : World) : Prop where
  os : w'.os = w.os
  tape : w'.tape = w.tape
  output : w'.output = w.output
  size : w'.heap.size = w.heap.size
  other : ∀ k, k ≠ b → w'.heap[k]? = w.heap[k]?
theorem Only.refl (b : Nat) (w : World) : Only b w w := ⟨rfl, rfl, rfl, rfl, fun _ _ => rfl⟩
theorem Only.drewN {b : Nat} {w w' : World} (h : Only b w w') (n : Nat) : Only b w (w'.drewN n) := ⟨h.os, h.tape, h.output, h.size, h.other⟩
theorem Only.set {b : Nat} {w w' : World} (h : Only b w w') (o : Nat) (v : Value) : Only b w (w'.setCell ⟨b, o, none⟩ v) :=
  ⟨h.os, h.tape, h.output, by simp [World.setCell, h.size], fun k hk => by rw [Below.heap_setCell _ _ _ _ hk]; exact h.other k hk⟩
theorem Only.below {b : Nat} {w w' : World} (h : Only b w w') {B : Nat} (hB : B ≤ b) : Below B w w' :=
  ⟨h.os, h.tape, h.output, by rw [h.size]; exact Nat.le_refl _, fun k hk => h.other k (by omega)⟩
theorem vals_get (l : List Nat) (i : Nat) : (vals l)[i]? = (l[i]?).map fun (x : Nat) => Value.int .u8 (x : Int) := by simp [vals]
theorem RowIs.cell {w : World} {b : Nat} {l : List Nat} (h : RowIs w b l) {i : Nat} {x : Nat} (hx : l[i]? = some x) : w.cell? ⟨b, i, none⟩ = some (.int .u8 (x : Int)) := by
  have h' : w.heap[b]? = some (.cells (vals l).toArray 5 (0, 0)) := h
  rw [cell_block h', List.getElem?_toArray, vals_get, hx]; rfl
theorem RowIs.frozen {w : World} {b : Nat} {l : List Nat} (h : RowIs w b l) (i : Nat) : w.frozen? ⟨b, i, none⟩ = false := by
  have h' : w.heap[b]? = some (.cells (vals l).toArray 5 (0, 0)) := h
  simp [World.frozen?, h']
theorem RowIs.set {w : World} {b : Nat} {l : List Nat} (h : RowIs w b l) (i x : Nat) : RowIs (w.setCell ⟨b, i, none⟩ (.int .u8 (x : Int))) b (l.set i x) := by
  have h' : w.heap[b]? = some (.cells (vals l).toArray 5 (0, 0)) := h
  unfold RowIs
  simp only [World.setCell, Array.getElem?_modify, h', Option.map_some]
  congr 2
  simp [vals]
/-- A row, so many times. -/
def timesTo (k : Nat) (l : List Nat) (by_ : Nat) : List Nat := (l.take k).map (gm · by_) ++ l.drop k
theorem timesTo_get (k : Nat) (l : List Nat) (m : Nat) (h : k < l.length) : (timesTo k l m)[k]? = l[k]? := by
  unfold timesTo
  rw [List.getElem?_append_right (by simp; omega), List.length_map, List.length_take, List.getElem?_drop]
  congr 1
  omega
theorem timesTo_set (k : Nat) (l : List Nat) (m x : Nat) (hx : l[k]? = some x) : (timesTo k l m).set k (gm x m) = timesTo (k + 1) l m := by
  obtain ⟨h, hx'⟩ := List.getElem?_eq_some_iff.1 hx
  unfold timesTo
  rw [List.set_append_right _ _ (by simp; omega), List.length_map, List.length_take, List.take_succ_eq_append_getElem h, List.map_append, List.append_assoc]
  congr 1
  rw [show k - min k l.length = 0 by omega, List.drop_eq_getElem_cons h, hx']
  rfl
set_option maxRecDepth 100000 in
set_option maxHeartbeats 2000000 in
theorem times_calls (w : World) (c b : Nat) (l : List Nat) (m : Nat) (hT : Tab w c) (hb : RowIs w b l) (hl : ∀ x ∈ l, x < 256) (hm : m < 256) (hn : l.length ≤ 4096) :
    Calls Try.prog 68 #[.pointer (some ⟨c, 0, none⟩), .slice (some ⟨b, 0, none⟩) l.length l.length, .int .u8 m] w fun e w' => e = .returned (.tuple #[]) ∧ RowIs w' b (l.map (gm · m)) ∧ Only b w w' := by
  have hcb : c ≠ b := by
    rintro rfl
    have h1 : w.heap[c]? = some (.cells (vals l).toArray 5 (0, 0)) := hb
    rw [show w.heap[c]? = _ from hT] at h1
    injection h1 with h1
    injection h1 with _ h1
    cases h1
  have HT := Lib.hid hT
  have HB := Lib.hid hb
  have HL := Lib.hid hl
  generalize hN : l.length = N at *
  have HN := Lib.hid hN
  clear hT hb hl hN
  go_enter Try.func68, Try.ntmps68
  go_wp2_with fail
  go_loopw [10] (fun v10 wr => ∃ k : Nat, k ≤ N ∧ v10 = .int .i64 k ∧ Hid (RowIs wr b (timesTo k l m)) ∧ Hid (Only b w wr)) (fun v _ => N - (intOf v).toNat)
  case atStart => exact ⟨0, by omega, rfl, HB, Only.refl _ _⟩
  case round =>
    obtain ⟨k, hk, rfl, HR, HO⟩ := hrel
    by_cases hlt : k < N
    · obtain ⟨x, hx⟩ : ∃ x, l[k]? = some x := ⟨_, List.getElem?_eq_getElem (by rw [HN.out]; exact hlt)⟩
      have hxl : x < 256 := HL.out x (List.mem_of_getElem? hx)
      have hc := HR.out.cell (i := k) (x := x) (by rw [timesTo_get _ _ _ (by rw [HN.out]; exact hlt), hx])
      have hf := HR.out.frozen k
      have HX := Lib.hid hx
      clear hx
      go_wp2_with fail
      refine (mul_n _ c (by exact (HO.out.other c hcb).trans HT.out) x m hxl hm).mono ?_
      rintro e w3 ⟨rfl, n_, rfl⟩
      go_wp2_with fail
      go_roundw
      case rel =>
        refine ⟨k + 1, by omega, by go_num, ?_, ?_⟩
        · have := HR.out.set k (gm x m)
          rw [timesTo_set k l m x HX.out] at this
          exact this
        · exact (HO.out.set _ _).drewN _
      case measure => simp [intOf]; omega
    · go_wp2_with fail
      go_end0
      refine ⟨rfl, ?_, HO.out⟩
      have h := HR.out
      have : k = N := by omega
      subst this
      unfold timesTo at h
      rw [List.take_of_length_le (by rw [HN.out]; exact Nat.le_refl _), List.drop_of_length_le (by rw [HN.out]; exact Nat.le_refl _), List.append_nil] at h
      exact h
/-- A row, with so many times another one. -/
def addTo (k : Nat) (ys xs : List Nat) (m : Nat) : List Nat := (List.zipWith (fun y x => y ^^^ gm m x) ys xs).take k ++ ys.drop k
theorem addTo_get (k : Nat) (ys xs : List Nat) (m : Nat) (h : k < ys.length) (h' : k < xs.length) : (addTo k ys xs m)[k]? = ys[k]? := by
  unfold addTo
  rw [List.getElem?_append_right (by simp; omega), List.length_take, List.length_zipWith, List.getElem?_drop]
  congr 1
  omega
theorem addTo_set (k : Nat) (ys xs : List Nat) (m y x : Nat) (hy : ys[k]? = some y) (hx : xs[k]? = some x) : (addTo k ys xs m).set k (y ^^^ gm m x) = addTo (k + 1) ys xs m := by
  obtain ⟨h, hy'⟩ := List.getElem?_eq_some_iff.1 hy
  obtain ⟨h1, hx'⟩ := List.getElem?_eq_some_iff.1 hx
  unfold addTo
  have hz : k < (List.zipWith (fun y x => y ^^^ gm m x) ys xs).length := by simp; omega
  rw [List.set_append_right _ _ (by simp; omega), List.length_take, List.take_succ_eq_append_getElem hz, List.append_assoc]
  congr 1
  rw [show k - min k (List.zipWith (fun y x => y ^^^ gm m x) ys xs).length = 0 by omega, List.drop_eq_getElem_cons h]
  simp [hy', hx']
set_option maxRecDepth 100000 in
set_option maxHeartbeats 2000000 in
theorem add_calls' (w : World) (c b : Nat) (ys xs : List Nat) (m : Nat) (A : Addr) (cap : Nat) (hT : Tab w c) (hb : RowIs w b ys) (hA : A.block ≠ b)
    (hR : ∀ (i x : Nat), xs[i]? = some x → w.cell? (A.add i) = some (.int .u8 (x : Int))) (hl : xs.length = ys.length)
    (hys : ∀ y ∈ ys, y < 256) (hxs : ∀ x ∈ xs, x < 256) (hm : m < 256) (hn : ys.length ≤ 4096) :
    Calls Try.prog 69 #[.pointer (some ⟨c, 0, none⟩), .slice (some ⟨b, 0, none⟩) ys.length ys.length, .slice (some A) xs.length cap, .int .u8 m] w fun e w' => e = .returned (.tuple #[]) ∧ RowIs w' b (List.zipWith (fun y x => y ^^^ gm m x) ys xs) ∧ Only b w w' := by
  have hcb : c ≠ b := by
    rintro rfl
    have h1 : w.heap[c]? = some (.cells (vals ys).toArray 5 (0, 0)) := hb
    rw [show w.heap[c]? = _ from hT] at h1
    injection h1 with h1
    injection h1 with _ h1
    cases h1
  have HT := Lib.hid hT
  have HB := Lib.hid hb
  have HY := Lib.hid hys
  have HX := Lib.hid hxs
  have HA := Lib.hid hR
  have HA' := Lib.hid hA
  have HLX := Lib.hid hl
  rw [hl]
  generalize hN : ys.length = N at *
  have HN := Lib.hid hN
  clear hT hb hl hN hys hxs hR hA
  go_enter Try.func69, Try.ntmps69
  go_wp2_with fail
  go_loopw [12] (fun v12 wr => ∃ k : Nat, k ≤ N ∧ v12 = .int .i64 k ∧ Hid (RowIs wr b (addTo k ys xs m)) ∧ Hid (Only b w wr)) (fun v _ => N - (intOf v).toNat)
  case atStart => exact ⟨0, by omega, rfl, HB, Only.refl _ _⟩
  case round =>
    obtain ⟨k, hk, rfl, HR, HO⟩ := hrel
    by_cases hlt : k < N
    · obtain ⟨x, hx⟩ : ∃ x, xs[k]? = some x := ⟨_, List.getElem?_eq_getElem (by rw [HLX.out]; exact hlt)⟩
      obtain ⟨y, hy⟩ : ∃ y, ys[k]? = some y := ⟨_, List.getElem?_eq_getElem (by rw [HN.out]; exact hlt)⟩
      have hxl : x < 256 := HX.out x (List.mem_of_getElem? hx)
      have hyl : y < 256 := HY.out y (List.mem_of_getElem? hy)
      have hc := HR.out.cell (i := k) (x := y) (by rw [addTo_get _ _ _ _ (by rw [HN.out]; exact hlt) (by rw [HLX.out]; exact hlt), hy])
      have hf := HR.out.frozen k
      have hAx : wr.cell? (A.add k) = some (.int .u8 (x : Int)) := by
        have h1 := HA.out k x hx
        have h2 : wr.heap[(A.add k).block]? = w.heap[(A.add k).block]? := HO.out.other _ (by unfold Addr.add; split <;> exact HA'.out)
        unfold World.cell? at h1 ⊢
        rw [h2]; exact h1
      have HX1 := Lib.hid hx
      have HY1 := Lib.hid hy
      have hg := gm_lt m x
      clear hx hy
      have hTr : Hid (Tab wr c) := (HO.out.other c hcb).trans HT.out
      go_wp2_with fail
      go_region_with (first | (go_at_call 32; refine (mul_n _ c (by exact hTr.out) m x hm hxl).mono ?_; rintro e w3 ⟨rfl, n_, rfl⟩) | (go_at_call 34; refine (add_n _ _ y (gm m x) hyl hg).mono ?_; rintro e w3 ⟨rfl, n_, rfl⟩))
      all_goals
        go_wp2_with fail
        go_roundw
        case rel =>
          refine ⟨k + 1, by omega, by go_num, ?_, ?_⟩
          · have := HR.out.set k (y ^^^ gm m x)
            rw [addTo_set k ys xs m y x HY1.out HX1.out] at this
            exact this
          · exact (HO.out.set _ _).drewN _
        case measure => simp [intOf]; omega
    · go_wp2_with fail
      go_end0
      refine ⟨rfl, ?_, HO.out⟩
      have h := HR.out
      have : k = N := by omega
      subst this
      unfold addTo at h
      rw [List.take_of_length_le (by rw [List.length_zipWith, HN.out, HLX.out]; omega), List.drop_of_length_le (by rw [HN.out]; exact Nat.le_refl _), List.append_nil] at h
      exact h
end Go.Proofs.Ythblmkailhdhlaa.Mat
/- Walks over package mat: a matrix whose numbers a function tells (filled). -/
namespace Go.Proofs.Ythblmkailhdhlaa.Mat
set_option linter.unusedVariables false
open Go.RowKit Go.Proofs.Ythblmkailhdhlaa.F Go.Proofs.Ythblmkailhdhlaa.Gf Go.Proofs.YthblmkailhdhlaaW.PrintWords
theorem info5 : (Try.prog.info? 5).map (fun i => (i.zero, i.size, i.bytes)) = some (some (.int .u8 0), 1, 1) := by kernel_rfl
theorem info43 : (Try.prog.info? 43).map (fun i => (i.zero, i.size, i.bytes)) = some (some (.slice none 0 0), 1, 24) := by kernel_rfl
theorem made_one (z : Value) (hz : z.cells = #[z]) (n : Nat) : madeCells z.cells n = (List.replicate n z).toArray := by
  apply Array.ext_getElem?
  intro i
  rw [hz]
  unfold madeCells
  rw [Array.getElem?_map]
  simp only [List.getElem?_toArray, List.getElem?_replicate]
  by_cases h : i < n
  · rw [if_pos h, Array.getElem?_eq_getElem (by simpa using h)]
    simp [Nat.mod_one]
  · rw [if_neg h, Array.getElem?_eq_none (by simpa using h)]; rfl
/-- 'make([][]byte, n)'. -/
theorem make_rows (n : Nat) (hn : n ≤ 4096) (w : World) : (Instr.makeSlice 42 (.int .i64 (n : Int)) (.int .i64 (n : Int))).run Try.prog w = .ok (.slice (some ⟨w.heap.size, 0, none⟩) n n) (w.alloc (.cells (List.replicate n (Value.slice none 0 0)).toArray 43)) := by
  obtain ⟨i0, hi, hz0, hz1, hz2⟩ := info_parts info43
  have h := run_make (P := Try.prog) w 42 43 i0 _ Try.underlying42 hi hz0 .i64 .i64 (n : Int) (n : Int) (by omega) (by omega) (by rw [hz2]; omega) (by omega)
  rw [h, hz1, Int.toNat_natCast, Nat.mul_one, made_one _ rfl]
/-- 'make([]byte, n)'. -/
theorem make_bytes (n : Nat) (hn : n ≤ 4096) (w : World) : (Instr.makeSlice 43 (.int .i64 (n : Int)) (.int .i64 (n : Int))).run Try.prog w = .ok (.slice (some ⟨w.heap.size, 0, none⟩) n n) (w.alloc (.cells (vals (List.replicate n 0)).toArray 5)) := by
  obtain ⟨i0, hi, hz0, hz1, hz2⟩ := info_parts info5
  have h := run_make (P := Try.prog) w 43 5 i0 _ Try.underlying43 hi hz0 .i64 .i64 (n : Int) (n : Int) (by omega) (by omega) (by rw [hz2]; omega) (by omega)
  rw [h, hz1, Int.toNat_natCast, Nat.mul_one, made_one _ rfl]
  congr 3
  simp [vals]
/-- The cells of a matrix's outer row: c bytes a row, in the blocks behind B. -/
def outers (B c n i : Nat) : List Value := (List.range n).map fun j => if j < i then .slice (some ⟨B + 1 + j, 0, none⟩) c c else .slice none 0 0
theorem outers_get (B c n i j : Nat) (h : j < n) : (outers B c n i)[j]? = some (if j < i then .slice (some ⟨B + 1 + j, 0, none⟩) c c else .slice none 0 0) := by
  unfold outers
  rw [List.getElem?_map, List.getElem?_range h]; rfl
theorem outers_len (B c n i : Nat) : (outers B c n i).length = n := by simp [outers]
theorem outers_set (B c n i : Nat) (h : i < n) : (outers B c n i).set i (.slice (some ⟨B + 1 + i, 0, none⟩) c c) = outers B c n (i + 1) := by
  apply List.ext_getElem?
  intro j
  rw [List.getElem?_set]
  by_cases hj : j < n
  · rw [outers_get _ _ _ _ _ hj, outers_get _ _ _ _ _ hj, outers_len]
    by_cases e : i = j
    · subst e; rw [if_pos rfl, if_pos hj, if_pos (by omega)]
    · rw [if_neg e]
      by_cases h1 : j < i
      · rw [if_pos h1, if_pos (by omega)]
      · rw [if_neg h1, if_neg (by omega)]
  · rw [List.getElem?_eq_none (by rw [outers_len]; omega), List.getElem?_eq_none (by rw [outers_len]; omega)]
    rw [if_neg (by omega)]
theorem outers_zero (B c n : Nat) : outers B c n 0 = List.replicate n (Value.slice none 0 0) := by
  apply List.ext_getElem?
  intro j
  by_cases hj : j < n
  · rw [outers_get _ _ _ _ _ hj, List.getElem?_replicate, if_pos hj, if_neg (by omega)]
  · rw [List.getElem?_eq_none (by rw [outers_len]; omega), List.getElem?_eq_none (by simp; omega)]
/-- Rows in blocks behind each other, i of which are there. -/
structure Fills (w0 w : World) (n c : Nat) (g : Nat → Nat → Nat) (i : Nat) : Prop where
  size : w.heap.size = w0.heap.size + 1 + i
  outer : w.heap[w0.heap.size]? = some (.cells (outers w0.heap.size c n i).toArray 43 (0, 0))
  rows : ∀ j, j < i → RowIs w (w0.heap.size + 1 + j) ((List.range c).map (g j))
  below : Below w0.heap.size w0 w
/-- The row i is being filled: k numbers are there. -/
structure Filling (w0 w : World) (n c : Nat) (g : Nat → Nat → Nat) (i k : Nat) : Prop where
  size : w.heap.size = w0.heap.size + 1 + (i + 1)
  outer : w.heap[w0.heap.size]? = some (.cells (outers w0.heap.size c n (i + 1)).toArray 43 (0, 0))
  rows : ∀ j, j < i → RowIs w (w0.heap.size + 1 + j) ((List.range c).map (g j))
  row : RowIs w (w0.heap.size + 1 + i) ((List.range c).map fun q => if q < k then g i q else 0)
  below : Below w0.heap.size w0 w
theorem Fills.start (w0 : World) (n c : Nat) (g : Nat → Nat → Nat) : Fills w0 (w0.alloc (.cells (List.replicate n (Value.slice none 0 0)).toArray 43)) n c g 0 :=
  ⟨by simp, by rw [outers_zero]; show (w0.heap.push _)[_]? = _; simp, fun j h => by omega, (Below.refl _ _).alloc (Nat.le_refl _) _⟩
theorem Fills.cell {w0 w : World} {n c i : Nat} {g : Nat → Nat → Nat} (h : Fills w0 w n c g i) (hi : i < n) : w.cell? ⟨w0.heap.size, i, none⟩ = some (.slice none 0 0) := by
  rw [cell_block h.outer, List.getElem?_toArray, outers_get _ _ _ _ _ hi, if_neg (by omega)]
theorem Fills.free {w0 w : World} {n c i : Nat} {g : Nat → Nat → Nat} (h : Fills w0 w n c g i) (j : Nat) : w.frozen? ⟨w0.heap.size, j, none⟩ = false := by
  simp [World.frozen?, h.outer]
theorem heap_push_at {w : World} {o : Obj} {k : Nat} (h : k = w.heap.size) : (w.alloc o).heap[k]? = some o := by
  subst h
  show (w.heap.push o)[_]? = _
  rw [Array.getElem?_push, if_pos rfl]
theorem heap_push_lt {w : World} {o : Obj} {k : Nat} (h : k < w.heap.size) : (w.alloc o).heap[k]? = w.heap[k]? := Below.heap_alloc _ _ _ h
theorem Fills.next {w0 w : World} {n c i : Nat} {g : Nat → Nat → Nat} (h : Fills w0 w n c g i) (hi : i < n) :
    Filling w0 ((w.setCell ⟨w0.heap.size, i, none⟩ (.slice (some ⟨w.heap.size, 0, none⟩) c c)).alloc (.cells (vals (List.replicate c 0)).toArray 5)) n c g i 0 := by
  have hs := h.size
  have hz : (w.setCell ⟨w0.heap.size, i, none⟩ (.slice (some ⟨w.heap.size, 0, none⟩) c c)).heap.size = w.heap.size := by simp [World.setCell]
  refine ⟨by simp [World.setCell]; omega, ?_, fun j hj => ?_, ?_, ?_⟩
  · rw [heap_push_lt (by omega)]
    simp only [World.setCell, Array.getElem?_modify, h.outer, Option.map_some]
    congr 2
    rw [← outers_set _ _ _ _ hi, hs]
    simp
  · have h1 := h.rows j hj
    unfold RowIs at h1 ⊢
    rw [heap_push_lt (by omega), Below.heap_setCell _ _ _ _ (by show _ ≠ w0.heap.size; omega)]
    exact h1
  · unfold RowIs
    rw [heap_push_at (by rw [hz]; omega)]
    congr 4
    apply List.ext_getElem?
    intro q
    rw [List.getElem?_replicate, List.getElem?_map]
    by_cases hq : q < c
    · rw [if_pos hq, List.getElem?_range hq]; simp
    · rw [if_neg hq, List.getElem?_eq_none (by simp; omega)]; rfl
  · exact (h.below.setCell (Nat.le_refl _) _).alloc (by rw [hz]; exact h.below.size) _
theorem Filling.cell {w0 w : World} {n c i k : Nat} {g : Nat → Nat → Nat} (h : Filling w0 w n c g i k) (hi : i < n) : w.cell? ⟨w0.heap.size, i, none⟩ = some (.slice (some ⟨w0.heap.size + 1 + i, 0, none⟩) c c) := by
  rw [cell_block h.outer, List.getElem?_toArray, outers_get _ _ _ _ _ hi, if_pos (by omega)]
theorem Filling.inner {w0 w : World} {n c i k : Nat} {g : Nat → Nat → Nat} (h : Filling w0 w n c g i k) (hk : k < c) : w.cell? ⟨w0.heap.size + 1 + i, k, none⟩ = some (.int .u8 0) := by
  have := h.row.cell (i := k) (x := 0) (by rw [List.getElem?_map, List.getElem?_range hk]; simp)
  exact this
theorem Filling.free {w0 w : World} {n c i k : Nat} {g : Nat → Nat → Nat} (h : Filling w0 w n c g i k) (j : Nat) : w.frozen? ⟨w0.heap.size + 1 + i, j, none⟩ = false := h.row.frozen j
theorem Filling.step {w0 w : World} {n c i k : Nat} {g : Nat → Nat → Nat} (h : Filling w0 w n c g i k) (hk : k < c) :
    Filling w0 (w.setCell ⟨w0.heap.size + 1 + i, k, none⟩ (.int .u8 (g i k : Int))) n c g i (k + 1) := by
  refine ⟨by simp [World.setCell, h.size], ?_, fun j hj => ?_, ?_, h.below.setCell (by show _ ≤ w0.heap.size + 1 + i; omega) _⟩
  · rw [Below.heap_setCell _ _ _ _ (by show _ ≠ w0.heap.size + 1 + i; omega)]; exact h.outer
  · have h1 := h.rows j hj
    unfold RowIs at h1 ⊢
    rw [Below.heap_setCell _ _ _ _ (by show _ ≠ w0.heap.size + 1 + i; omega)]; exact h1
  · have := h.row.set k (g i k)
    have e : ((List.range c).map fun q => if q < k then g i q else 0).set k (g i k) = (List.range c).map fun q => if q < k + 1 then g i q else 0 := by
      apply List.ext_getElem?
      intro q
      rw [List.getElem?_set]
      by_cases hq : q < c
      · rw [List.getElem?_map, List.getElem?_map, List.getElem?_range hq]
        by_cases e : k = q
        · subst e; simp [hk]
        · rw [if_neg e]
          simp only [Option.map_some]
          by_cases h1 : q < k
          · rw [if_pos h1, if_pos (by omega)]
          · rw [if_neg h1, if_neg (by omega)]
      · rw [List.getElem?_eq_none (by simp; omega), List.getElem?_eq_none (by simp; omega), if_neg (by omega)]
    rw [e] at this
    exact this
theorem Filling.drewN {w0 w : World} {n c i k : Nat} {g : Nat → Nat → Nat} (h : Filling w0 w n c g i k) (m : Nat) : Filling w0 (w.drewN m) n c g i k := ⟨h.size, h.outer, h.rows, h.row, below_drewN' m h.below⟩
theorem Filling.done {w0 w : World} {n c i : Nat} {g : Nat → Nat → Nat} (h : Filling w0 w n c g i c) : Fills w0 w n c g (i + 1) := by
  refine ⟨h.size, h.outer, fun j hj => ?_, h.below⟩
  by_cases e : j = i
  · subst e
    have := h.row
    have e : ((List.range c).map fun q => if q < c then g j q else 0) = (List.range c).map (g j) := by
      apply List.map_congr_left
      intro q hq
      rw [if_pos (by simpa using hq)]
    rw [e] at this
    exact this
  · exact h.rows j (by omega)
set_option maxRecDepth 100000 in
set_option maxHeartbeats 4000000 in
theorem filled_calls (w : World) (n c : Nat) (hn : n ≤ 4096) (hc : c ≤ 4096) (g : Nat → Nat → Nat) (F : Nat) (caps : Array Value)
    (hcf : ∀ (xs : Array Value) (w : World), (callFunc F xs).run Try.prog w = .ok (.enter F xs) w)
    (hat : ∀ (w1 : World) (i k : Nat), i < n → k < c → Below w.heap.size w w1 → Calls Try.prog F (#[.int .i64 (i : Int), .int .i64 (k : Int)] ++ caps) w1 fun e w2 => e = .returned (.int .u8 (g i k : Nat)) ∧ ∃ m, w2 = w1.drewN m) :
    Calls Try.prog 64 #[.int .i64 (n : Int), .int .i64 (c : Int), .func (.func F) #[] caps] w fun e w' => e = .returned (.slice (some ⟨w.heap.size, 0, none⟩) n n) ∧ Fills w w' n c g n := by
  have HAT := Lib.hid hat
  clear hat
  have hmr := make_rows n hn
  have hmb := make_bytes c hc
  generalize hZ : (vals (List.replicate c 0)).toArray = Z at hmb
  have HZ := Lib.hid hZ
  clear hZ
  have HS := Lib.hid (Fills.start w n c g)
  generalize hO : (List.replicate n (Value.slice none 0 0)).toArray = O at hmr HS
  clear hO
  go_enter Try.func64, Try.ntmps64
  go_wp2_with fail
  generalize hB : w.heap.size = B at *
  have HB := Lib.hid hB
  clear hB
  go_loopw [14] (fun v14 wr => ∃ i : Nat, i ≤ n ∧ v14 = .int .i64 i ∧ Hid (Fills w wr n c g i)) (fun v _ => n - (intOf v).toNat)
  case atStart => exact ⟨0, by omega, rfl, HS⟩
  case round =>
    obtain ⟨i, hi, rfl, HW⟩ := hrel
    by_cases hlt : i < n
    · have hc1 := HW.out.cell hlt
      have hf1 := HW.out.free i
      have hs1 := HW.out.size
      rw [HB.out] at hc1 hf1 hs1
      have HS1 := Lib.hid hs1
      have hblt : B < wr.heap.size := by omega
      have HN := Lib.hid (HW.out.next hlt)
      rw [HB.out, HZ.out] at HN
      clear hs1
      go_wp2_with fail
      go_loopw [27] (fun v27 wx => ∃ k : Nat, k ≤ c ∧ v27 = .int .i64 k ∧ Hid (Filling w wx n c g i k)) (fun v _ => c - (intOf v).toNat)
      case atStart => exact ⟨0, by omega, rfl, HN⟩
      case round =>
        obtain ⟨k, hk, rfl, HG⟩ := hrel
        by_cases hkc : k < c
        · have hc2 := HG.out.cell hlt
          have hc3 := HG.out.inner hkc
          have hf3 := HG.out.free k
          have hbl := HG.out.below
          rw [HB.out] at hc2 hc3 hf3 hbl
          have HBL := Lib.hid hbl
          clear hbl
          go_wp2_with fail
          go_region_with (refine (HAT.out _ i k hlt hkc (by repeat (first | exact HBL.out | apply Below.drew | apply below_drewN'))).mono ?_; rintro e w3 ⟨rfl, n_, rfl⟩)
          all_goals
            go_wp2_with fail
            go_roundw
            case rel => exact ⟨k + 1, by omega, by go_num, (by have := HG.out.step hkc; rw [HB.out] at this; exact this.drewN _)⟩
            case measure => simp [intOf]; omega
        · go_wp2_with fail
          have : k = c := by omega
          subst this
          go_roundw
          case rel => exact ⟨i + 1, by omega, by go_num, HG.out.done⟩
          case measure => simp [intOf]; omega
    · go_wp2_with fail
      go_ret
      have : i = n := by omega
      subst this
      refine ⟨?_, HW.out⟩
      rw [HB.out]; rfl
end Go.Proofs.Ythblmkailhdhlaa.Mat
/- Walks over package mat: One, Cauchy; a matrix in memory, and what the print says of one. -/
namespace Go.Proofs.Ythblmkailhdhlaa.Mat
set_option linter.unusedVariables false
open Go.RowKit Go.Proofs.Ythblmkailhdhlaa.F Go.Proofs.Ythblmkailhdhlaa.Gf Go.Proofs.YthblmkailhdhlaaW.PrintWords
def ints (l : List Nat) : List Int := l.map fun (x : Nat) => (x : Int)
def mints (M : List (List Nat)) : List (List Int) := M.map ints
theorem vals_nums (l : List Nat) : vals l = nums .u8 (ints l) := by simp [vals, nums, ints]
def rowVal (b : Nat) (l : List Nat) : Value := .slice (some ⟨b, 0, none⟩) l.length l.length
/-- A matrix that the call has made: its rows' blocks, one a row. -/
structure MatIs (w : World) (B ob : Nat) (bs : List Nat) (M : List (List Nat)) : Prop where
  len : bs.length = M.length
  outer : w.heap[ob]? = some (.cells (List.zipWith rowVal bs M).toArray 43 (0, 0))
  rows : ∀ (i b : Nat) (l : List Nat), bs[i]? = some b → M[i]? = some l → RowIs w b l
  nodup : bs.Nodup
  low : B ≤ ob
  lows : ∀ b ∈ bs, B ≤ b
  small : M.length ≤ 4096
  smalls : ∀ l ∈ M, l.length ≤ 4096
theorem MatIs.lower {w : World} {B B' ob : Nat} {bs : List Nat} {M : List (List Nat)} (h : MatIs w B ob bs M) (hB : B' ≤ B) : MatIs w B' ob bs M :=
  ⟨h.len, h.outer, h.rows, h.nodup, Nat.le_trans hB h.low, fun b hb => Nat.le_trans hB (h.lows b hb), h.small, h.smalls⟩
/-- Where a block stands among some. -/
def place (bs : List Nat) (k : Nat) : Nat := bs.idxOf k
theorem row_own {w : World} {B b : Nat} {l : List Nat} (h : RowIs w b l) (hb : B ≤ b) (hl : l.length ≤ 4096) : w.ownsRow B 5 1 (rowVal b l) l.length (nums .u8 (ints l)) := by
  refine ⟨by simp [nums, ints], .inr ⟨b, l.length, (vals l).toArray, rfl, hb, h, Nat.le_refl _, by unfold maxLen; omega, by simp [vals], ?_⟩⟩
  rw [Nat.mul_one, List.take_of_length_le (by simp [vals]), vals_nums]
theorem row_kd {w : World} {B b : Nat} {l : List Nat} {ok : Nat → Prop} (h : RowIs w b l) (hb : B ≤ b) (hl : l.length ≤ 4096) (hok : ok b) : (Kd.int .u8).R 5 w B ok (rowVal b l) (ints l) := by
  refine ⟨fun k hk => ?_, nums .u8 (ints l), by have := row_own h hb hl; rwa [show (ints l).length = l.length by simp [ints]], ?_⟩
  · have : b = k := by simpa [rowVal, Value.ownBlock] using hk
    exact this ▸ hok
  · refine ⟨by rw [show (Kd.int .u8).sz = 1 from rfl]; simp [nums], fun j p hj => ?_⟩
    show _ = [_]
    have h1 : (nums .u8 (ints l))[j]? = some (.int .u8 p) := by simp [nums, hj]
    obtain ⟨hlt, he⟩ := List.getElem?_eq_some_iff.1 h1
    rw [show (Kd.int .u8).sz = 1 from rfl, Nat.mul_one, List.drop_eq_getElem_cons hlt, he]
    rfl
theorem MatIs.kdS {w : World} {B ob : Nat} {bs : List Nat} {M : List (List Nat)} (h : MatIs w B ob bs M) :
    Kd.S (Kd.slice 5 (Kd.int .u8)) 43 w B (fun _ => True) (.slice (some ⟨ob, 0, none⟩) M.length M.length) (mints M) := by
  refine ⟨place bs, fun k hk => trivial, (List.zipWith rowVal bs M), ?_, ?_⟩
  · have hs := h.small
    have hz : (List.zipWith rowVal bs M).length = M.length := by rw [List.length_zipWith, h.len, Nat.min_self]
    refine ⟨by rw [show (Kd.tag (place bs) (Kd.slice 5 (Kd.int .u8))).sz = 1 from rfl, hz]; simp [mints], .inr ⟨ob, M.length, _, by simp [mints], h.low, h.outer, by simp [mints], by unfold maxLen; omega, by rw [show (Kd.tag (place bs) (Kd.slice 5 (Kd.int .u8))).sz = 1 from rfl, List.size_toArray, hz, Nat.mul_one], ?_⟩⟩
    rw [show (Kd.tag (place bs) (Kd.slice 5 (Kd.int .u8))).sz = 1 from rfl]
    exact List.take_of_length_le (by simp [mints, hz])
  · have hz : (List.zipWith rowVal bs M).length = M.length := by rw [List.length_zipWith, h.len, Nat.min_self]
    refine ⟨by rw [show (Kd.tag (place bs) (Kd.slice 5 (Kd.int .u8))).sz = 1 from rfl, hz]; simp [mints], fun j p hj => ?_⟩
    obtain ⟨xs, q⟩ := p
    have hq : q = j ∧ (mints M)[j]? = some xs := by
      rw [List.getElem?_zipIdx] at hj
      cases hm : (mints M)[j]? with
      | none => rw [hm] at hj; cases hj
      | some y => rw [hm] at hj; injection hj with hj; injection hj with h1 h2; exact ⟨by omega, by rw [h1]⟩
    obtain ⟨rfl, hx⟩ := hq
    obtain ⟨l, hl, hxl⟩ : ∃ l, M[q]? = some l ∧ xs = ints l := by
      unfold mints at hx
      rw [List.getElem?_map] at hx
      cases hm : M[q]? with
      | none => rw [hm] at hx; cases hx
      | some l => rw [hm] at hx; injection hx with hx; exact ⟨l, rfl, hx.symm⟩
    obtain ⟨b, hb⟩ : ∃ b, bs[q]? = some b := by
      have := (List.getElem?_eq_some_iff.1 hl).1
      exact ⟨_, List.getElem?_eq_getElem (h.len ▸ this)⟩
    have hz : (List.zipWith rowVal bs M)[q]? = some (rowVal b l) := by simp [List.getElem?_zipWith, hb, hl]
    obtain ⟨hlt, he⟩ := List.getElem?_eq_some_iff.1 hz
    refine ⟨rowVal b l, ?_, ?_⟩
    · show ((List.zipWith rowVal bs M).drop (q * 1)).take 1 = _
      rw [Nat.mul_one, List.drop_eq_getElem_cons hlt, he]
      rfl
    · subst hxl
      refine row_kd (h.rows q b l hb hl) (h.lows b (List.mem_of_getElem? hb)) (h.smalls l (List.mem_of_getElem? hl)) ⟨⟨trivial, ?_⟩, ?_⟩
      · intro e
        have e' : b = ob := by simpa [Value.ownBlock] using e
        have h1 : w.heap[b]? = some (.cells (vals l).toArray 5 (0, 0)) := h.rows q b l hb hl
        rw [e', h.outer] at h1
        injection h1 with h1
        injection h1 with _ h1
        cases h1
      · show place bs b = q
        unfold place
        obtain ⟨hq, hbe⟩ := List.getElem?_eq_some_iff.1 hb
        rw [← hbe]
        exact List.Nodup.idxOf_getElem h.nodup q hq
/-- The matrix of a function's numbers. -/
def grid (n c : Nat) (g : Nat → Nat → Nat) : List (List Nat) := (List.range n).map fun i => (List.range c).map (g i)
theorem grid_len (n c : Nat) (g : Nat → Nat → Nat) : (grid n c g).length = n := by simp [grid]
theorem grid_get (n c : Nat) (g : Nat → Nat → Nat) {i : Nat} (h : i < n) : (grid n c g)[i]? = some ((List.range c).map (g i)) := by
  unfold grid; rw [List.getElem?_map, List.getElem?_range h]; rfl
theorem Fills.mat {w0 w : World} {n c : Nat} {g : Nat → Nat → Nat} (h : Fills w0 w n c g n) (hn : n ≤ 4096) (hc : c ≤ 4096) :
    MatIs w w0.heap.size w0.heap.size (List.range' (w0.heap.size + 1) n) (grid n c g) := by
  refine ⟨by simp [grid], ?_, fun i b l hb hl => ?_, List.nodup_range', Nat.le_refl _, fun b hb => by rw [List.mem_range'_1] at hb; omega, by rw [grid_len]; exact hn, fun l hl => ?_⟩
  · rw [h.outer]
    congr 3
    apply List.ext_getElem?
    intro j
    by_cases hj : j < n
    · rw [outers_get _ _ _ _ _ hj, if_pos hj, List.getElem?_zipWith, grid_get _ _ _ hj, List.getElem?_range' hj]
      simp [rowVal]
    · rw [List.getElem?_eq_none (by rw [outers_len]; omega), List.getElem?_eq_none (by simp [grid]; omega)]
  · have hi : i < n := by
      have := (List.getElem?_eq_some_iff.1 hl).1
      rwa [grid_len] at this
    rw [grid_get _ _ _ hi] at hl
    injection hl with hl
    subst hl
    rw [List.getElem?_range' hi] at hb
    injection hb with hb
    have := h.rows i hi
    rw [show w0.heap.size + 1 + i = b by omega] at this
    exact this
  · obtain ⟨i, hi, rfl⟩ := List.mem_map.1 hl
    simp; exact hc
theorem calls65 (xs : Array Value) (w : World) : (callFunc 65 xs).run Try.prog w = .ok (.enter 65 xs) w := by kernel_rfl
theorem calls66 (xs : Array Value) (w : World) : (callFunc 66 xs).run Try.prog w = .ok (.enter 66 xs) w := by kernel_rfl
theorem calls71 (xs : Array Value) (w : World) : (callFunc 71 xs).run Try.prog w = .ok (.enter 71 xs) w := by kernel_rfl
/-- The one's numbers. -/
def oneAt (i k : Nat) : Nat := if i = k then 1 else 0
set_option maxRecDepth 100000 in
set_option maxHeartbeats 1000000 in
theorem one_at (w : World) (i k : Nat) : Calls Try.prog 65 #[.int .i64 (i : Int), .int .i64 (k : Int)] w fun e w2 => e = .returned (.int .u8 (oneAt i k : Nat)) ∧ ∃ m, w2 = w.drewN m := by
  by_cases h : i = k
  · have hh : ((i : Int) == (k : Int)) = true := by rw [h]; simp
    have e : oneAt i k = 1 := if_pos h
    rw [e]
    clear e
    clear h
    go_enter Try.func65, Try.ntmps65
    go_wp2_with fail
    go_ret
    exact ⟨rfl, 0, rfl⟩
  · have hh : ((i : Int) == (k : Int)) = false := by simp; omega
    have e : oneAt i k = 0 := if_neg h
    rw [e]
    clear e
    clear h
    go_enter Try.func65, Try.ntmps65
    go_wp2_with fail
    go_ret
    exact ⟨rfl, 0, rfl⟩
set_option maxRecDepth 100000 in
set_option maxHeartbeats 1000000 in
theorem zero_at (w : World) (i k : Nat) : Calls Try.prog 71 #[.int .i64 (i : Int), .int .i64 (k : Int)] w fun e w2 => e = .returned (.int .u8 (0 : Nat)) ∧ ∃ m, w2 = w.drewN m := by
  go_enter Try.func71, Try.ntmps71
  go_wp2_with fail
  go_ret
  exact ⟨rfl, 0, rfl⟩
set_option maxRecDepth 100000 in
set_option maxHeartbeats 1000000 in
theorem size_calls (n : Int) (w : World) : Calls Try.prog 63 #[.int .i64 n] w fun e w' => e = .returned (.bool (decide (1 ≤ n ∧ n ≤ 64))) ∧ w = w' := by
  by_cases h : 1 ≤ n
  · by_cases h1 : n ≤ 64
    · rw [decide_eq_true ⟨h, h1⟩]
      go_enter Try.func63, Try.ntmps63
      go_wp2_with fail
      go_ret
      exact ⟨rfl, rfl⟩
    · rw [decide_eq_false (fun h => h1 h.2)]
      go_enter Try.func63, Try.ntmps63
      go_wp2_with fail
      go_ret
      exact ⟨rfl, rfl⟩
  · rw [decide_eq_false (fun h' => h h'.1)]
    go_enter Try.func63, Try.ntmps63
    go_wp2_with fail
    go_ret
    exact ⟨rfl, rfl⟩
set_option maxRecDepth 100000 in
set_option maxHeartbeats 1000000 in
theorem one_bad (n : Int) (hn : ¬ (1 ≤ n ∧ n ≤ 64)) (w : World) : Calls Try.prog 37 #[.int .i64 n] w fun e w' => e = .returned (.tuple #[.slice none 0 0, .int .i64 1]) ∧ w = w' := by
  have hs := fun w => (size_calls n w)
  rw [decide_eq_false hn] at hs
  have HS := Lib.hid hs
  clear hs hn
  go_enter Try.func37, Try.ntmps37
  go_wp2_with fail
  refine (HS.out _).mono ?_
  rintro e w1 ⟨rfl, rfl⟩
  go_wp2_with fail
  go_ret2
  exact ⟨rfl, rfl⟩
set_option maxRecDepth 100000 in
set_option maxHeartbeats 1000000 in
theorem one_good (n : Nat) (hn : 1 ≤ n ∧ n ≤ 64) (w : World) : Calls Try.prog 37 #[.int .i64 (n : Int)] w fun e w' => e = .returned (.tuple #[.slice (some ⟨w.heap.size, 0, none⟩) n n, .int .i64 0]) ∧ MatIs w' w.heap.size w.heap.size (List.range' (w.heap.size + 1) n) (grid n n oneAt) ∧ Below w.heap.size w w' ∧ w'.heap.size = w.heap.size + 1 + n := by
  have hs := fun w => (size_calls (n : Int) w)
  rw [decide_eq_true (show 1 ≤ (n : Int) ∧ (n : Int) ≤ 64 by omega)] at hs
  have HS := Lib.hid hs
  have HN := Lib.hid hn
  clear hs hn
  go_enter Try.func37, Try.ntmps37
  go_wp2_with fail
  refine (HS.out _).mono ?_
  rintro e w1 ⟨rfl, rfl⟩
  go_wp2_with fail
  refine (filled_calls _ n n (by have := HN.out; omega) (by have := HN.out; omega) oneAt 65 #[] calls65 (fun w1 i k _ _ _ => one_at w1 i k)).mono ?_
  rintro e w1 ⟨rfl, hf⟩
  have HF := Lib.hid hf
  clear hf
  go_wp2_with fail
  go_ret2
  exact ⟨rfl, HF.out.mat (by have := HN.out; omega) (by have := HN.out; omega), HF.out.below, HF.out.size⟩
/-- Cauchy's numbers: so many columns. -/
def cauAt (c i k : Nat) : Nat := (dq 1 ((c + i) ^^^ k)).1
set_option maxRecDepth 100000 in
set_option maxHeartbeats 2000000 in
theorem cau_at (w : World) (t fb cb c i k : Nat) (ht : Tab w t) (hf : w.heap[fb]? = some (.cells #[.pointer (some ⟨t, 0, none⟩)] 23 (0, 0))) (hc : w.heap[cb]? = some (.cells #[.int .i64 (c : Int)] 3 (0, 0)))
    (hi : c + i < 256) (hk : k < 256) :
    Calls Try.prog 66 #[.int .i64 (i : Int), .int .i64 (k : Int), .pointer (some ⟨fb, 0, none⟩), .pointer (some ⟨cb, 0, none⟩)] w fun e w2 => e = .returned (.int .u8 (cauAt c i k : Nat)) ∧ ∃ m, w2 = w.drewN m := by
  have h1 := cell_of_one hf
  have h2 := cell_of_one hc
  have HT := Lib.hid ht
  obtain ⟨q, hq⟩ : ∃ q, q = c + i := ⟨_, rfl⟩
  have hq1 : (c : Int) + (i : Int) = (q : Int) := by omega
  have hq2 : q < 256 := by omega
  have e1 : Value.tuple #[.int .u8 (dq 1 (q ^^^ k)).1, .int .i64 (dq 1 (q ^^^ k)).2] = Value.tuple #[.int .u8 (cauAt c i k : Nat), .int .i64 (dq 1 (q ^^^ k)).2] := by
    unfold cauAt; rw [← hq]
  have E1 := Lib.hid e1
  have HX := Lib.hid (xor_lt hq2 hk)
  have hw1 : IntKind.i64.wrap (q : Int) = (q : Int) := IntWalk.i64_in _ (by omega)
  have hw2 : IntKind.u8.wrap (q : Int) = (q : Int) := by rw [IntKind.wrap_u8]; omega
  have hw3 : IntKind.u8.wrap (k : Int) = (k : Int) := by rw [IntKind.wrap_u8]; omega
  clear hf hc ht hq e1
  go_enter Try.func66, Try.ntmps66
  go_wp2_with fail
  go_quiet (first | (go_at_call 34; go_must (exact Calls.quiet_of (add_n _ _ q k hq2 hk))) | (go_at_call 27; go_must (exact Calls.quiet_of (turned (inv_n _ t (by exact HT.out) (q ^^^ k) HX.out) E1.out))))
  go_wp2_with fail
  go_ret
  exact ⟨rfl, _, rfl⟩
theorem blk_lt {w : World} {b : Nat} {o : Obj} (h : w.heap[b]? = some o) : b < w.heap.size := (Array.getElem?_eq_some_iff.1 h).1
theorem below_blk {B b : Nat} {w w' : World} {o : Obj} (h : w.heap[b]? = some o) (hb : Below B w w') (hB : b < B) : w'.heap[b]? = some o := (hb.block b hB).trans h
set_option maxRecDepth 100000 in
set_option maxHeartbeats 1000000 in
theorem cauchy_bad (n c : Int) (hn : ¬ (1 ≤ n ∧ n ≤ 64 ∧ 1 ≤ c ∧ c ≤ 64)) (w : World) : Calls Try.prog 39 #[.int .i64 n, .int .i64 c] w fun e w' => e = .returned (.tuple #[.slice none 0 0, .int .i64 1]) ∧ Below w.heap.size w w' := by
  have hcl : (w.alloc (.cells #[.int .i64 c] 3)).cell? ⟨w.heap.size, 0, none⟩ = some (.int .i64 c) := cell_of_one (heap_push_at rfl)
  have HB := Lib.hid ((Below.refl w.heap.size w).alloc (Nat.le_refl _) (.cells #[.int .i64 c] 3))
  by_cases h : 1 ≤ n ∧ n ≤ 64
  · have hs := fun w => (size_calls n w)
    have ht := fun w => (size_calls c w)
    rw [decide_eq_true h] at hs
    rw [decide_eq_false (show ¬ (1 ≤ c ∧ c ≤ 64) from fun h' => hn ⟨h.1, h.2, h'⟩)] at ht
    have HS := Lib.hid hs
    have HT := Lib.hid ht
    clear hs ht hn h
    go_enter Try.func39, Try.ntmps39
    go_wp2_with fail
    refine (HS.out _).mono ?_
    rintro e w1 ⟨rfl, rfl⟩
    go_wp2_with fail
    refine (HT.out _).mono ?_
    rintro e w1 ⟨rfl, rfl⟩
    go_wp2_with fail
    go_ret2
    exact ⟨rfl, HB.out⟩
  · have hs := fun w => (size_calls n w)
    rw [decide_eq_false h] at hs
    have HS := Lib.hid hs
    clear hs hn h
    go_enter Try.func39, Try.ntmps39
    go_wp2_with fail
    refine (HS.out _).mono ?_
    rintro e w1 ⟨rfl, rfl⟩
    go_wp2_with fail
    go_ret2
    exact ⟨rfl, HB.out⟩
set_option maxRecDepth 100000 in
set_option maxHeartbeats 2000000 in
theorem cauchy_good (n c : Nat) (hn : 1 ≤ n ∧ n ≤ 64 ∧ 1 ≤ c ∧ c ≤ 64) (w : World) : Calls Try.prog 39 #[.int .i64 (n : Int), .int .i64 (c : Int)] w fun e w' => ∃ B bs, e = .returned (.tuple #[.slice (some ⟨B, 0, none⟩) n n, .int .i64 0]) ∧ MatIs w' w.heap.size B bs (grid n c (cauAt c)) ∧ Below w.heap.size w w' := by
  have hcl : (w.alloc (.cells #[.int .i64 (c : Int)] 3)).cell? ⟨w.heap.size, 0, none⟩ = some (.int .i64 (c : Int)) := cell_of_one (heap_push_at rfl)
  have hcb : (w.alloc (.cells #[.int .i64 (c : Int)] 3)).heap[w.heap.size]? = some (.cells #[.int .i64 (c : Int)] 3 (0, 0)) := heap_push_at rfl
  have HCB := Lib.hid hcb
  have HB := Lib.hid ((Below.refl w.heap.size w).alloc (Nat.le_refl _) (.cells #[.int .i64 (c : Int)] 3))
  have hs := fun w => (size_calls (n : Int) w)
  have ht := fun w => (size_calls (c : Int) w)
  rw [decide_eq_true (show 1 ≤ (n : Int) ∧ (n : Int) ≤ 64 by omega)] at hs
  rw [decide_eq_true (show 1 ≤ (c : Int) ∧ (c : Int) ≤ 64 by omega)] at ht
  have HS := Lib.hid hs
  have HT := Lib.hid ht
  have HN := Lib.hid hn
  clear hs ht hn hcb
  go_enter Try.func39, Try.ntmps39
  go_wp2_with fail
  refine (HS.out _).mono ?_
  rintro e w1 ⟨rfl, rfl⟩
  go_wp2_with fail
  refine (HT.out _).mono ?_
  rintro e w1 ⟨rfl, rfl⟩
  go_wp2_with fail
  refine (new_calls _).mono ?_
  rintro e w1 ⟨rfl, htab, hb1⟩
  have hB1 : Hid (Below w.heap.size w w1) := HB.out.trans (hb1.mono (by simp))
  have hC1 : Hid (w1.heap[w.heap.size]? = some (.cells #[.int .i64 (c : Int)] 3 (0, 0))) := below_blk HCB.out hb1 (by simp)
  have hcl1 := cell_of_one hC1.out
  have hlt : w.heap.size < w1.heap.size := by have := hb1.size; simp at this; omega
  have hab := (Below.refl w1.heap.size w1).alloc (Nat.le_refl _) (.cells #[.pointer (some ⟨w.heap.size + 1, 0, none⟩)] 23)
  have HTab : Hid (Tab (w1.alloc (.cells #[.pointer (some ⟨w.heap.size + 1, 0, none⟩)] 23)) (w.heap.size + 1)) := by
    have : (w.alloc (Obj.cells #[Value.int .i64 (c : Int)] 3)).heap.size = w.heap.size + 1 := by simp
    rw [this] at htab
    exact htab.below hab
  have HC2 : Hid ((w1.alloc (.cells #[.pointer (some ⟨w.heap.size + 1, 0, none⟩)] 23)).heap[w.heap.size]? = some (.cells #[.int .i64 (c : Int)] 3 (0, 0))) := below_blk hC1.out hab hlt
  have HF2 : Hid ((w1.alloc (.cells #[.pointer (some ⟨w.heap.size + 1, 0, none⟩)] 23)).heap[w1.heap.size]? = some (.cells #[.pointer (some ⟨w.heap.size + 1, 0, none⟩)] 23 (0, 0))) := heap_push_at rfl
  have HB2 := Lib.hid (hB1.out.alloc hB1.out.size (.cells #[.pointer (some ⟨w.heap.size + 1, 0, none⟩)] 23))
  clear hcl htab hb1 hab
  go_wp2_with fail
  refine (filled_calls _ n c (by have := HN.out; omega) (by have := HN.out; omega) (cauAt c) 66 #[.pointer (some ⟨w1.heap.size, 0, none⟩), .pointer (some ⟨w.heap.size, 0, none⟩)] calls66 (fun w2 i k hi hk hbw => cau_at w2 (w.heap.size + 1) w1.heap.size w.heap.size c i k (HTab.out.below hbw) (below_blk HF2.out hbw (blk_lt HF2.out)) (below_blk HC2.out hbw (blk_lt HC2.out)) (by have := HN.out; omega) (by have := HN.out; omega))).mono ?_
  rintro e w2 ⟨rfl, hf⟩
  have HF := Lib.hid hf
  clear hf
  go_wp2_with fail
  go_ret2
  have hm := HF.out.mat (by have := HN.out; omega) (by have := HN.out; omega)
  have hsz : (w1.alloc (.cells #[.pointer (some ⟨w.heap.size + 1, 0, none⟩)] 23)).heap.size = w1.heap.size + 1 := by simp
  rw [hsz] at hm
  exact ⟨_, _, rfl, hm.lower (by omega), HB2.out.trans (HF.out.below.mono HB2.out.size)⟩
end Go.Proofs.Ythblmkailhdhlaa.Mat
-- PRINTED by print.py (a twelfth state) out of the translation. Not trusted: Lean checks it.
namespace Go.Proofs.Ythblmkailhdhlaa.P
open Go.Proofs.Ythblmkailhdhlaa.G Go.RowKit Go.Proofs.YthblmkailhdhlaaW.PrintWords Go.Proofs.YthblmkailhdhlaaW.PrintLast Go.Proofs.YthblmkailhdhlaaW.PrintMore
attribute [local go_sem] max2_int min2_int max_two min_two max_three min_three max_four min_four   -- for this text's walks alone
set_option linter.unusedVariables false
set_option linter.unusedSimpArgs false
theorem info5 : (Try.prog.info? 5).map (fun i => (i.zero, i.size, i.bytes)) = some (some (.int .u8 0), 1, 1) := by kernel_rfl
theorem info43 : (Try.prog.info? 43).map (fun i => (i.zero, i.size, i.bytes)) = some (some (.slice none 0 0), 1, 24) := by kernel_rfl
-- the values' own types
def rd_L1 (xs : List (List Int)) (i : Int) : (List Int) := xs.getD i.toNat ([] : List Int)
theorem at_L1 {w : World} {A : Option Addr} {n : Nat} {xs : List (List Int)} (h : Kd.C (Kd.slice 5 (Kd.int .u8)) w A n xs) (i : Int) (h0 : 0 ≤ i) (h1 : i < n) : ∃ ad A0 c0, A = some ad ∧ w.cell? (ad.add i.toNat) = some (.slice A0 (rd_L1 xs i).length c0) ∧ (rd_L1 xs i).length ≤ c0 ∧ (Kd.int .u8).C w A0 (rd_L1 xs i).length (rd_L1 xs i) := by
  obtain ⟨ad, c, e, _, hK, hc0⟩ := Kd.C_get h ([] : List Int) i h0 h1
  have hc : ∀ j u, c[j]? = some u → w.cell? (ad.add (i.toNat * 1 + j)) = some u := hc0
  obtain ⟨A0, c0, rfl, l0, g0⟩ := hK
  exact ⟨ad, A0, c0, e, by have hq := hc 0 _ rfl; rwa [Nat.mul_one, Nat.add_zero] at hq, l0, g0⟩
end Go.Proofs.Ythblmkailhdhlaa.P
-- PRINTED by print.py (a twelfth state) out of the translation. Not trusted: Lean checks it.
namespace Go.Proofs.Ythblmkailhdhlaa.P
open Go.Proofs.Ythblmkailhdhlaa.G Go.RowKit Go.Proofs.YthblmkailhdhlaaW.PrintWords Go.Proofs.YthblmkailhdhlaaW.PrintLast Go.Proofs.YthblmkailhdhlaaW.PrintMore
attribute [local go_sem] max2_int min2_int max_two min_two max_three min_three max_four min_four   -- for this text's walks alone
set_option linter.unusedVariables false
set_option linter.unusedSimpArgs false
-- NOT PRINTED: function 57 (gf_powers)
-- NOT PRINTED: function 24 (gf_New)
/-! ### mat_size: function 63 -/
def mat_size.f (a0 : Int) : Option (Bool) := if a0 ≥ 1 then (some (decide (a0 ≤ 64))) else (some false)
set_option maxHeartbeats 8000000 in
set_option maxRecDepth 100000 in
theorem mat_size.calls (a0 : Int) (r : Bool) (w : World) (h : mat_size.f a0 = some r) :
    Calls Try.prog 63 #[.int .i64 a0] w fun e w' => e = .returned (.bool r) ∧ Drawn0 w w' := by
  have H : (if a0 ≥ 1 then (some (decide (a0 ≤ 64))) else (some false)) = some r := h
  clear h
  by_cases c2 : a0 ≥ 1
  · rw [if_pos c2] at H
    have c2b0 : decide (1 ≤ a0) = true := decide_eq_true c2
    clear c2
    obtain rfl := Option.some.inj H
    go_enter Try.func63, Try.ntmps63
    go_wp2
    go_ret
    exact ⟨by first | rfl | (simp; done) | (simp [*]; done), by repeat (first | exact Drawn0.refl _ | apply Drawn0.step)⟩
  · rw [if_neg c2] at H
    have c2b0 : decide (1 ≤ a0) = false := decide_eq_false c2
    clear c2
    obtain rfl := Option.some.inj H
    go_enter Try.func63, Try.ntmps63
    go_wp2
    go_ret
    exact ⟨by first | rfl | (simp; done) | (simp [*]; done), by repeat (first | exact Drawn0.refl _ | apply Drawn0.step)⟩
-- NOT PRINTED: function 64 (mat_filled)
-- NOT PRINTED: function 39 (mat_Cauchy)
/-! ### mat_May: function 42 -/
mutual
def mat_May.j0 : Nat → List (List Int) → Bool → Option (Bool)
  | 0, _, _ => none
  | k + 1, x0, x22 => if x22 = true then (some false) else (mat_May.l0 k x0 x0 (x0.length : Int) 0)
def mat_May.l0 : Nat → List (List Int) → List (List Int) → Int → Int → Option (Bool)
  | 0, _, _, _, _ => none
  | k + 1, x0, x23, x24, x25 => if x25 < x24 then (if 0 ≤ x25 then (if x25 < (x23.length : Int) then (if 0 < (x0.length : Int) then (if ((rd_L1 x23 x25).length : Int) = ((rd_L1 x0 0).length : Int) then (mat_May.l0 k x0 x23 x24 (wrap64 (x25 + 1))) else (some false)) else (none)) else (none)) else (none)) else (some true)
end
def mat_May.f (k : Nat) (l0 : List (List Int)) : Option (Bool) := (mat_size.f (l0.length : Int)).bind fun t101 => (if t101 = true then (if 0 < (l0.length : Int) then (if ((rd_L1 l0 0).length : Int) < 1 then (mat_May.j0 k l0 true) else (mat_May.j0 k l0 (decide (((rd_L1 l0 0).length : Int) > 4096)))) else (none)) else (mat_May.j0 k l0 true))
set_option maxHeartbeats 8000000 in
set_option maxRecDepth 100000 in
theorem mat_May.calls (k : Nat) (A0 : Option Addr) (c0 : Nat) (l0 : List (List Int)) (r : Bool) (w : World) (hr0 : Kd.C (Kd.slice 5 (Kd.int .u8)) w A0 l0.length l0) (hc0 : l0.length ≤ c0) (h : mat_May.f k l0 = some r) :
    Calls Try.prog 42 #[.slice A0 l0.length c0] w fun e w' => e = .returned (.bool r) ∧ Drawn0 w w' := by
  have HR0 := Aside0.mk hr0
  have HC0 := Aside0.mk hc0
  clear hr0 hc0
  have H : ((mat_size.f (l0.length : Int)).bind fun t101 => (if t101 = true then (if 0 < (l0.length : Int) then (if ((rd_L1 l0 0).length : Int) < 1 then (mat_May.j0 k l0 true) else (mat_May.j0 k l0 (decide (((rd_L1 l0 0).length : Int) > 4096)))) else (none)) else (mat_May.j0 k l0 true))) = some r := h
  clear h
  have HC2 := Aside0.mk H
  clear H
  go_enter Try.func42, Try.ntmps42
  go_upto_region 1 with (fail)
  go_cut [22] (fun v22 wc => ∃ (kq : Nat) (x22_1 : Bool), v22 = .bool x22_1 ∧ Aside0 (mat_May.j0 kq l0 x22_1 = some r) ∧ Aside0 (kq ≤ k) ∧ Drawn0 w wc)
  case first =>
    have H := HC2.out
    clear HC2
    replace H := Option.bind_eq_some_iff.mp H
    obtain ⟨t101, A30, H⟩ := H
    replace H : (if t101 = true then (if 0 < (l0.length : Int) then (if ((rd_L1 l0 0).length : Int) < 1 then (mat_May.j0 k l0 true) else (mat_May.j0 k l0 (decide (((rd_L1 l0 0).length : Int) > 4096)))) else (none)) else (mat_May.j0 k l0 true)) = some r := H
    have A3 := Aside0.mk A30
    clear A30
    by_cases c4 : t101 = true
    · subst c4
      have H1 : (if 0 < (l0.length : Int) then (if ((rd_L1 l0 0).length : Int) < 1 then (mat_May.j0 k l0 true) else (mat_May.j0 k l0 (decide (((rd_L1 l0 0).length : Int) > 4096)))) else (none)) = some r := by rw [if_pos rfl] at H; exact H
      clear H
      have H := H1
      clear H1
      by_cases c5 : 0 < (l0.length : Int)
      · rw [if_pos c5] at H
        have c5b0 : decide (0 < (l0.length : Int)) = true := decide_eq_true c5
        have c5b1 : decide (0 < l0.length) = true := decide_eq_true (by omega)
        clear c5
        (first | rw [c5b0] | (simp only [i64_w, i32_w]; rw [c5b0]) | skip)
        by_cases c6 : ((rd_L1 l0 0).length : Int) < 1
        · rw [if_pos c6] at H
          have c6b0 : decide (((rd_L1 l0 0).length : Int) < 1) = true := decide_eq_true c6
          have c6b1 : decide ((rd_L1 l0 0).length < 1) = true := decide_eq_true (by omega)
          clear c6
          have H' := Aside0.mk H
          clear H
          go_wp2_with (first | ((with_reducible refine gate_callee (f := 63) rfl ?_); refine goesL_ (some 7) rfl rfl Try.func63 (by kernel_rfl) rfl #[.int .i64 (l0.length : Int)] rfl (by (try simp only [List.map_toArray, List.map_cons, List.map_nil]); first | done | rfl | (simp only [List.length_drop, List.length_take]; rfl)) ?_; (with_reducible refine (mat_size.calls (l0.length : Int) true _ A3.out).mono ?_); rintro e w' ⟨rfl, ⟨nd, rfl⟩⟩; refine ⟨_, rfl, ?_⟩; have p102 : 0 ≤ (0 : Int) := (by omega); have q102 : 0 < (l0.length : Int) := of_decide_eq_true (by first | (with_reducible assumption) | assumption); obtain ⟨ad102, A102_0, c102_0, e102, hx102_0, hl102_0, hi102_0⟩ := at_L1 HR0.out 0 p102 q102; cases e102; have qi102 : (0 < l0.length) = True := eq_true (by omega); (try rw [show ((0 : Int)).toNat = 0 from rfl] at hx102_0); (try rw [Addr.add_zero'] at hx102_0); have HR102_0 := Aside0.mk hi102_0; have HC102_0 := Aside0.mk hl102_0; clear hi102_0 hl102_0; replace p102 := eq_true p102; replace q102 := eq_true q102))
          go_meet
          case rel => exact ⟨_, (true), (by first | rfl | (simp; done) | (simp [*]; done)), H', ⟨by first | omega | exact Nat.le_refl _⟩, by repeat (first | exact Drawn0.refl _ | apply Drawn0.step)⟩
        · rw [if_neg c6] at H
          have c6b0 : decide (((rd_L1 l0 0).length : Int) < 1) = false := decide_eq_false c6
          have c6b1 : decide ((rd_L1 l0 0).length < 1) = false := decide_eq_false (by omega)
          clear c6
          have H' := Aside0.mk H
          clear H
          go_wp2_with (first | ((with_reducible refine gate_callee (f := 63) rfl ?_); refine goesL_ (some 7) rfl rfl Try.func63 (by kernel_rfl) rfl #[.int .i64 (l0.length : Int)] rfl (by (try simp only [List.map_toArray, List.map_cons, List.map_nil]); first | done | rfl | (simp only [List.length_drop, List.length_take]; rfl)) ?_; (with_reducible refine (mat_size.calls (l0.length : Int) true _ A3.out).mono ?_); rintro e w' ⟨rfl, ⟨nd, rfl⟩⟩; refine ⟨_, rfl, ?_⟩; have p102 : 0 ≤ (0 : Int) := (by omega); have q102 : 0 < (l0.length : Int) := of_decide_eq_true (by first | (with_reducible assumption) | assumption); obtain ⟨ad102, A102_0, c102_0, e102, hx102_0, hl102_0, hi102_0⟩ := at_L1 HR0.out 0 p102 q102; cases e102; have qi102 : (0 < l0.length) = True := eq_true (by omega); (try rw [show ((0 : Int)).toNat = 0 from rfl] at hx102_0); (try rw [Addr.add_zero'] at hx102_0); have HR102_0 := Aside0.mk hi102_0; have HC102_0 := Aside0.mk hl102_0; clear hi102_0 hl102_0; replace p102 := eq_true p102; replace q102 := eq_true q102; have p103 : 0 ≤ (0 : Int) := (by omega); have q103 : 0 < (l0.length : Int) := of_decide_eq_true (by first | (with_reducible assumption) | assumption); obtain ⟨ad103, A103_0, c103_0, e103, hx103_0, hl103_0, hi103_0⟩ := at_L1 HR0.out 0 p103 q103; obtain rfl : ad102 = ad103 := (by injection e103); have qi103 : (0 < l0.length) = True := eq_true (by omega); (try rw [show ((0 : Int)).toNat = 0 from rfl] at hx103_0); (try rw [Addr.add_zero'] at hx103_0); have HR103_0 := Aside0.mk hi103_0; have HC103_0 := Aside0.mk hl103_0; clear hi103_0 hl103_0; replace p103 := eq_true p103; replace q103 := eq_true q103; have ea_ := Option.some.inj (hx102_0.symm.trans hx103_0); injection ea_ with ea_ en_ ec_; subst ea_; subst ec_; clear en_))
          go_meet
          case rel => exact ⟨_, (decide (((rd_L1 l0 0).length : Int) > 4096)), (by first | rfl | (simp; done) | (simp [*]; done)), H', ⟨by first | omega | exact Nat.le_refl _⟩, by repeat (first | exact Drawn0.refl _ | apply Drawn0.step)⟩
      · rw [if_neg c5] at H
        exact absurd H (by simp)
    · replace c4 := Bool.eq_false_iff.mpr c4
      subst c4
      have H1 : (mat_May.j0 k l0 true) = some r := by rw [if_neg (show ¬ (false = true) by decide)] at H; exact H
      clear H
      have H := H1
      clear H1
      have H' := Aside0.mk H
      clear H
      go_wp2_with (first | ((with_reducible refine gate_callee (f := 63) rfl ?_); refine goesL_ (some 7) rfl rfl Try.func63 (by kernel_rfl) rfl #[.int .i64 (l0.length : Int)] rfl (by (try simp only [List.map_toArray, List.map_cons, List.map_nil]); first | done | rfl | (simp only [List.length_drop, List.length_take]; rfl)) ?_; (with_reducible refine (mat_size.calls (l0.length : Int) false _ A3.out).mono ?_); rintro e w' ⟨rfl, ⟨nd, rfl⟩⟩; refine ⟨_, rfl, ?_⟩))
      go_meet
      case rel => exact ⟨_, (true), (by first | rfl | (simp; done) | (simp [*]; done)), H', ⟨by first | omega | exact Nat.le_refl _⟩, by repeat (first | exact Drawn0.refl _ | apply Drawn0.step)⟩
  case rest =>
    clear HC2
    try clear c1
    try clear p1
    try clear q1
    try clear hx1
    try clear qi1
    try clear p2
    try clear c4
    try clear c5
    try clear c5b0
    try clear c5b1
    try clear c6
    try clear c6b0
    try clear c6b1
    try clear hx102_0
    try clear hx103_0
    try clear p102
    try clear p103
    try clear q102
    try clear q103
    obtain ⟨kq, x22_1, rfl, HA, HJ1, ⟨mc1, rfl⟩⟩ := hcut
    cases kq with
    | zero => exact absurd HA.out (by simp [mat_May.j0])
    | succ kj1 =>
      have H := HA.out
      clear HA
      simp only [mat_May.j0] at H
      by_cases c7 : x22_1 = true
      · subst c7
        have H1 : (some false) = some r := by rw [if_pos rfl] at H; exact H
        clear H
        have H := H1
        clear H1
        obtain rfl := Option.some.inj H
        go_wp2
        go_ret
        exact ⟨by first | rfl | (simp; done) | (simp [*]; done), by repeat (first | exact Drawn0.refl _ | apply Drawn0.step)⟩
      · replace c7 := Bool.eq_false_iff.mpr c7
        subst c7
        have H1 : (mat_May.l0 kj1 l0 l0 (l0.length : Int) 0) = some r := by rw [if_neg (show ¬ (false = true) by decide)] at H; exact H
        clear H
        have H := H1
        clear H1
        have H' := Aside0.mk H
        clear H
        go_wp2
        go_loopg [25] kj1 (fun kq v25 w' => ∃ (x25_2 : Int), v25 = .int .i64 x25_2 ∧ Aside0 (mat_May.l0 kq l0 l0 (l0.length : Int) x25_2 = some r) ∧ Aside0 (kq ≤ kj1) ∧ Drawn0 w w')
        case atStart => exact ⟨(0), (by first | rfl | (simp; done) | (simp [*]; done)), H', ⟨Nat.le_refl _⟩, by repeat (first | exact Drawn0.refl _ | apply Drawn0.step)⟩
        case round =>
          clear H'
          try clear c1
          try clear p1
          try clear q1
          try clear hx1
          try clear qi1
          try clear p2
          try clear c4
          try clear c5
          try clear c5b0
          try clear c5b1
          try clear c6
          try clear c6b0
          try clear c6b1
          try clear c7
          try clear hx102_0
          try clear hx103_0
          try clear p1
          try clear p102
          try clear p103
          try clear p2
          try clear q1
          try clear q102
          try clear q103
          obtain ⟨x25_2, rfl, HA, HK2, ⟨m2, rfl⟩⟩ := hrel
          cases gk with
          | zero => exact absurd HA.out (by simp [mat_May.l0])
          | succ k2 =>
            have H := HA.out
            clear HA
            simp only [mat_May.l0] at H
            by_cases c8 : x25_2 < (l0.length : Int)
            · rw [if_pos c8] at H
              have c8b0 : decide (x25_2 < (l0.length : Int)) = true := decide_eq_true c8
              clear c8
              by_cases c9 : 0 ≤ x25_2
              · rw [if_pos c9] at H
                have c9b0 : decide (0 ≤ x25_2) = true := decide_eq_true c9
                clear c9
                by_cases c10 : x25_2 < (l0.length : Int)
                · rw [if_pos c10] at H
                  have c10b0 : decide (x25_2 < (l0.length : Int)) = true := decide_eq_true c10
                  clear c10
                  by_cases c11 : 0 < (l0.length : Int)
                  · rw [if_pos c11] at H
                    have c11b0 : decide (0 < (l0.length : Int)) = true := decide_eq_true c11
                    have c11b1 : decide (0 < l0.length) = true := decide_eq_true (by omega)
                    clear c11
                    by_cases c12 : ((rd_L1 l0 x25_2).length : Int) = ((rd_L1 l0 0).length : Int)
                    · rw [if_pos c12] at H
                      have c12b0 : (((rd_L1 l0 x25_2).length : Int) == ((rd_L1 l0 0).length : Int)) = true := beq_iff_eq.mpr c12
                      have c12b1 : (((rd_L1 l0 x25_2).length : Int) != ((rd_L1 l0 0).length : Int)) = false := bne_eq_false_iff_eq.mpr c12
                      have c12b2 : ((rd_L1 l0 x25_2).length == (rd_L1 l0 0).length) = true := by first | simpa using c12 | (simp at c12 ⊢; omega)
                      clear c12
                      have H' := Aside0.mk H
                      clear H
                      have p104 : 0 ≤ (x25_2 : Int) := of_decide_eq_true (by first | (with_reducible assumption) | assumption)
                      have q104 : x25_2 < (l0.length : Int) := of_decide_eq_true (by first | (with_reducible assumption) | assumption)
                      obtain ⟨ad104, A104_0, c104_0, e104, hx104_0, hl104_0, hi104_0⟩ := at_L1 HR0.out x25_2 p104 q104
                      cases e104
                      have HR104_0 := Aside0.mk hi104_0
                      have HC104_0 := Aside0.mk hl104_0
                      clear hi104_0 hl104_0
                      replace p104 := eq_true p104
                      replace q104 := eq_true q104
                      have p105 : 0 ≤ (0 : Int) := (by omega)
                      have q105 : 0 < (l0.length : Int) := of_decide_eq_true (by first | (with_reducible assumption) | assumption)
                      obtain ⟨ad105, A105_0, c105_0, e105, hx105_0, hl105_0, hi105_0⟩ := at_L1 HR0.out 0 p105 q105
                      obtain rfl : ad104 = ad105 := (by injection e105)
                      have qi105 : (0 < l0.length) = True := eq_true (by omega)
                      (try rw [show ((0 : Int)).toNat = 0 from rfl] at hx105_0)
                      (try rw [Addr.add_zero'] at hx105_0)
                      have HR105_0 := Aside0.mk hi105_0
                      have HC105_0 := Aside0.mk hl105_0
                      clear hi105_0 hl105_0
                      replace p105 := eq_true p105
                      replace q105 := eq_true q105
                      go_wp2
                      go_roundg k2
                      case measure => have := HJ1.out; have := HK2.out; omega
                      case rel => exact ⟨(wrap64 (x25_2 + 1)), (by first | rfl | (simp; done) | (simp [*]; done)), H', ⟨by have := HJ1.out; have := HK2.out; omega⟩, by repeat (first | exact Drawn0.refl _ | apply Drawn0.step)⟩
                    · rw [if_neg c12] at H
                      have c12b0 : (((rd_L1 l0 x25_2).length : Int) == ((rd_L1 l0 0).length : Int)) = false := beq_eq_false_iff_ne.mpr c12
                      have c12b1 : (((rd_L1 l0 x25_2).length : Int) != ((rd_L1 l0 0).length : Int)) = true := bne_iff_ne.mpr c12
                      have c12b2 : ((rd_L1 l0 x25_2).length == (rd_L1 l0 0).length) = false := by first | simpa using c12 | (simp at c12 ⊢; omega)
                      obtain rfl := Option.some.inj H
                      have p104 : 0 ≤ (x25_2 : Int) := of_decide_eq_true (by first | (with_reducible assumption) | assumption)
                      have q104 : x25_2 < (l0.length : Int) := of_decide_eq_true (by first | (with_reducible assumption) | assumption)
                      obtain ⟨ad104, A104_0, c104_0, e104, hx104_0, hl104_0, hi104_0⟩ := at_L1 HR0.out x25_2 p104 q104
                      cases e104
                      have HR104_0 := Aside0.mk hi104_0
                      have HC104_0 := Aside0.mk hl104_0
                      clear hi104_0 hl104_0
                      replace p104 := eq_true p104
                      replace q104 := eq_true q104
                      have p105 : 0 ≤ (0 : Int) := (by omega)
                      have q105 : 0 < (l0.length : Int) := of_decide_eq_true (by first | (with_reducible assumption) | assumption)
                      obtain ⟨ad105, A105_0, c105_0, e105, hx105_0, hl105_0, hi105_0⟩ := at_L1 HR0.out 0 p105 q105
                      obtain rfl : ad104 = ad105 := (by injection e105)
                      have qi105 : (0 < l0.length) = True := eq_true (by omega)
                      (try rw [show ((0 : Int)).toNat = 0 from rfl] at hx105_0)
                      (try rw [Addr.add_zero'] at hx105_0)
                      have HR105_0 := Aside0.mk hi105_0
                      have HC105_0 := Aside0.mk hl105_0
                      clear hi105_0 hl105_0
                      replace p105 := eq_true p105
                      replace q105 := eq_true q105
                      go_wp2
                      go_ret
                      exact ⟨by first | rfl | (simp; done) | (simp [*]; done), by repeat (first | exact Drawn0.refl _ | apply Drawn0.step)⟩
                  · rw [if_neg c11] at H
                    exact absurd H (by simp)
                · rw [if_neg c10] at H
                  exact absurd H (by simp)
              · rw [if_neg c9] at H
                exact absurd H (by simp)
            · rw [if_neg c8] at H
              have c8b0 : decide (x25_2 < (l0.length : Int)) = false := decide_eq_false c8
              clear c8
              obtain rfl := Option.some.inj H
              go_wp2
              go_ret
              exact ⟨by first | rfl | (simp; done) | (simp [*]; done), by repeat (first | exact Drawn0.refl _ | apply Drawn0.step)⟩
-- NOT PRINTED: function 59 (gf_Field_tables)
-- NOT PRINTED: function 25 (gf_Field_Div)
-- NOT PRINTED: function 27 (gf_Field_Inv)
-- NOT PRINTED: function 37 (mat_One)
/-! ### mat_pivot: function 67 -/
def mat_pivot.l0 : Nat → List (List Int) → Int → Int → Option (Int)
  | 0, _, _, _ => none
  | k + 1, x0, x1, x5 => if x5 < (x0.length : Int) then (if 0 ≤ x5 then (if 0 ≤ x1 then (if x1 < ((rd_L1 x0 x5).length : Int) then (if (rd (rd_L1 x0 x5) x1) = 0 then (mat_pivot.l0 k x0 x1 (wrap64 (x5 + 1))) else (some x5)) else (none)) else (none)) else (none)) else (some (-1))
def mat_pivot.f (k : Nat) (l0 : List (List Int)) (a1 : Int) : Option (Int) := mat_pivot.l0 k l0 a1 a1
set_option maxHeartbeats 8000000 in
set_option maxRecDepth 100000 in
theorem mat_pivot.calls (k : Nat) (A0 : Option Addr) (c0 : Nat) (l0 : List (List Int)) (a1 : Int) (r : Int) (w : World) (hr0 : Kd.C (Kd.slice 5 (Kd.int .u8)) w A0 l0.length l0) (hc0 : l0.length ≤ c0) (h : mat_pivot.f k l0 a1 = some r) :
    Calls Try.prog 67 #[.slice A0 l0.length c0, .int .i64 a1] w fun e w' => e = .returned (.int .i64 r) ∧ Drawn0 w w' := by
  have HR0 := Aside0.mk hr0
  have HC0 := Aside0.mk hc0
  clear hr0 hc0
  have H : (mat_pivot.l0 k l0 a1 a1) = some r := h
  clear h
  have H' := Aside0.mk H
  clear H
  go_enter Try.func67, Try.ntmps67
  go_wp2
  go_loopg [5] k (fun kq v5 w' => ∃ (x5_1 : Int), v5 = .int .i64 x5_1 ∧ Aside0 (mat_pivot.l0 kq l0 a1 x5_1 = some r) ∧ Aside0 (kq ≤ k) ∧ Drawn0 w w')
  case atStart => exact ⟨(a1), (by first | rfl | (simp; done) | (simp [*]; done)), H', ⟨Nat.le_refl _⟩, by repeat (first | exact Drawn0.refl _ | apply Drawn0.step)⟩
  case round =>
    clear H'
    try clear p2
    obtain ⟨x5_1, rfl, HA, HK1, ⟨m1, rfl⟩⟩ := hrel
    cases gk with
    | zero => exact absurd HA.out (by simp [mat_pivot.l0])
    | succ k1 =>
      have H := HA.out
      clear HA
      simp only [mat_pivot.l0] at H
      by_cases c3 : x5_1 < (l0.length : Int)
      · rw [if_pos c3] at H
        have c3b0 : decide (x5_1 < (l0.length : Int)) = true := decide_eq_true c3
        clear c3
        by_cases c4 : 0 ≤ x5_1
        · rw [if_pos c4] at H
          have c4b0 : decide (0 ≤ x5_1) = true := decide_eq_true c4
          clear c4
          by_cases c5 : 0 ≤ a1
          · rw [if_pos c5] at H
            have c5b0 : decide (0 ≤ a1) = true := decide_eq_true c5
            clear c5
            by_cases c6 : a1 < ((rd_L1 l0 x5_1).length : Int)
            · rw [if_pos c6] at H
              have c6b0 : decide (a1 < ((rd_L1 l0 x5_1).length : Int)) = true := decide_eq_true c6
              clear c6
              by_cases c7 : (rd (rd_L1 l0 x5_1) a1) = 0
              · rw [if_pos c7] at H
                have c7b0 : ((rd (rd_L1 l0 x5_1) a1) == 0) = true := beq_iff_eq.mpr c7
                have c7b1 : ((rd (rd_L1 l0 x5_1) a1) != 0) = false := bne_eq_false_iff_eq.mpr c7
                clear c7
                have H' := Aside0.mk H
                clear H
                have p107 : 0 ≤ (x5_1 : Int) := of_decide_eq_true (by first | (with_reducible assumption) | assumption)
                have q107 : x5_1 < (l0.length : Int) := of_decide_eq_true (by first | (with_reducible assumption) | assumption)
                obtain ⟨ad107, A107_0, c107_0, e107, hx107_0, hl107_0, hi107_0⟩ := at_L1 HR0.out x5_1 p107 q107
                cases e107
                have HR107_0 := Aside0.mk hi107_0
                have HC107_0 := Aside0.mk hl107_0
                clear hi107_0 hl107_0
                replace p107 := eq_true p107
                replace q107 := eq_true q107
                have p108 : 0 ≤ (a1 : Int) := of_decide_eq_true (by first | (with_reducible assumption) | assumption)
                have q108 : a1 < ((rd_L1 l0 x5_1).length : Int) := of_decide_eq_true (by first | (with_reducible assumption) | assumption)
                obtain ⟨ad108, e108, hx108_0⟩ := Kd.at_int HR107_0.out a1 p108 q108
                cases e108
                replace p108 := eq_true p108
                replace q108 := eq_true q108
                go_wp2
                go_roundg k1
                case measure => have := HK1.out; omega
                case rel => exact ⟨(wrap64 (x5_1 + 1)), (by first | rfl | (simp; done) | (simp [*]; done)), H', ⟨by have := HK1.out; omega⟩, by repeat (first | exact Drawn0.refl _ | apply Drawn0.step)⟩
              · rw [if_neg c7] at H
                have c7b0 : ((rd (rd_L1 l0 x5_1) a1) == 0) = false := beq_eq_false_iff_ne.mpr c7
                have c7b1 : ((rd (rd_L1 l0 x5_1) a1) != 0) = true := bne_iff_ne.mpr c7
                obtain rfl := Option.some.inj H
                have p107 : 0 ≤ (x5_1 : Int) := of_decide_eq_true (by first | (with_reducible assumption) | assumption)
                have q107 : x5_1 < (l0.length : Int) := of_decide_eq_true (by first | (with_reducible assumption) | assumption)
                obtain ⟨ad107, A107_0, c107_0, e107, hx107_0, hl107_0, hi107_0⟩ := at_L1 HR0.out x5_1 p107 q107
                cases e107
                have HR107_0 := Aside0.mk hi107_0
                have HC107_0 := Aside0.mk hl107_0
                clear hi107_0 hl107_0
                replace p107 := eq_true p107
                replace q107 := eq_true q107
                have p108 : 0 ≤ (a1 : Int) := of_decide_eq_true (by first | (with_reducible assumption) | assumption)
                have q108 : a1 < ((rd_L1 l0 x5_1).length : Int) := of_decide_eq_true (by first | (with_reducible assumption) | assumption)
                obtain ⟨ad108, e108, hx108_0⟩ := Kd.at_int HR107_0.out a1 p108 q108
                cases e108
                replace p108 := eq_true p108
                replace q108 := eq_true q108
                go_wp2
                go_ret
                exact ⟨by first | rfl | (simp; done) | (simp [*]; done), by repeat (first | exact Drawn0.refl _ | apply Drawn0.step)⟩
            · rw [if_neg c6] at H
              exact absurd H (by simp)
          · rw [if_neg c5] at H
            exact absurd H (by simp)
        · rw [if_neg c4] at H
          exact absurd H (by simp)
      · rw [if_neg c3] at H
        have c3b0 : decide (x5_1 < (l0.length : Int)) = false := decide_eq_false c3
        clear c3
        obtain rfl := Option.some.inj H
        go_wp2
        go_ret
        exact ⟨by first | rfl | (simp; done) | (simp [*]; done), by repeat (first | exact Drawn0.refl _ | apply Drawn0.step)⟩
-- NOT PRINTED: function 32 (gf_Field_Mul)
-- NOT PRINTED: function 68 (mat_times)
-- NOT PRINTED: function 34 (gf_Field_Add)
-- NOT PRINTED: function 69 (mat_add)
-- NOT PRINTED: function 45 (mat_Inv)
-- NOT PRINTED: function 36 (quartermasterlaw02_awake)
end Go.Proofs.Ythblmkailhdhlaa.P
/- What mat.May and mat.pivot (as printed) come to. -/
namespace Go.Proofs.Ythblmkailhdhlaa.Mat
set_option linter.unusedVariables false
open Go.RowKit Go.Proofs.Ythblmkailhdhlaa.F Go.Proofs.Ythblmkailhdhlaa.R Go.Proofs.Ythblmkailhdhlaa.P Go.Proofs.YthblmkailhdhlaaW.PrintWords
def mayP (l : List (List Int)) : Prop := 1 ≤ l.length ∧ l.length ≤ 64 ∧ 1 ≤ (l.getD 0 []).length ∧ (l.getD 0 []).length ≤ 4096 ∧ ∀ r ∈ l, r.length = (l.getD 0 []).length
instance (l : List (List Int)) : Decidable (mayP l) := by unfold mayP; exact inferInstance
theorem rd_L1_nat (l : List (List Int)) (j : Nat) : rd_L1 l (j : Int) = l.getD j [] := by unfold rd_L1; rw [Int.toNat_natCast]
theorem may_l0 (l : List (List Int)) (hl : 0 < l.length) (h64 : l.length ≤ 64) : ∀ (d i k : Nat), i + d = l.length → d < k →
    mat_May.l0 k l l (l.length : Int) (i : Int) = some (decide (∀ r ∈ l.drop i, r.length = (l.getD 0 []).length)) := by
  intro d
  induction d with
  | zero =>
    intro i k h hk
    obtain ⟨k, rfl⟩ : ∃ m, k = m + 1 := ⟨k - 1, by omega⟩
    simp only [mat_May.l0]
    rw [if_neg (by omega), List.drop_of_length_le (by omega), decide_eq_true (by intro r hr; cases hr)]
  | succ d ih =>
    intro i k h hk
    obtain ⟨k, rfl⟩ : ∃ m, k = m + 1 := ⟨k - 1, by omega⟩
    simp only [mat_May.l0]
    have h0 : rd_L1 l 0 = l.getD 0 [] := rd_L1_nat l 0
    rw [if_pos (by omega), if_pos (by omega), if_pos (by omega), if_pos (by omega), rd_L1_nat, h0]
    have hi : i < l.length := by omega
    rw [List.drop_eq_getElem_cons hi]
    have hg : l.getD i [] = l[i] := by rw [List.getD_eq_getElem?_getD, List.getElem?_eq_getElem hi]; rfl
    rw [hg]
    by_cases he : l[i].length = (l.getD 0 []).length
    · rw [if_pos (by omega), w64 (by omega) (by omega)]
      have := ih (i + 1) k (by omega) (by omega)
      rw [show ((i + 1 : Nat) : Int) = (i : Int) + 1 by omega] at this
      rw [this]
      congr 1
      apply decide_eq_decide.2
      constructor
      · intro h1 r hr
        rcases List.mem_cons.1 hr with rfl | hr
        · exact he
        · exact h1 r hr
      · intro h1 r hr
        exact h1 r (List.mem_cons_of_mem _ hr)
    · rw [if_neg (by omega), decide_eq_false (fun h1 => he (h1 _ List.mem_cons_self))]
theorem may_f (l : List (List Int)) {k : Nat} (hk : 80 ≤ k) : mat_May.f k l = some (decide (mayP l)) := by
  unfold mat_May.f mat_size.f
  by_cases h1 : 1 ≤ l.length
  · rw [if_pos (by omega)]
    simp only [Option.bind_some]
    by_cases h2 : l.length ≤ 64
    · rw [decide_eq_true (show (l.length : Int) ≤ 64 by omega), if_pos rfl, if_pos (by omega), show rd_L1 l 0 = l.getD 0 [] from rd_L1_nat l 0]
      obtain ⟨k, rfl⟩ : ∃ m, k = m + 1 := ⟨k - 1, by omega⟩
      by_cases h3 : 1 ≤ (l.getD 0 []).length
      · rw [if_neg (by omega)]
        simp only [mat_May.j0]
        by_cases h4 : (l.getD 0 []).length ≤ 4096
        · rw [decide_eq_false (by omega), if_neg (by decide)]
          have := may_l0 l (by omega) h2 l.length 0 k (by omega) (by omega)
          rw [show ((0 : Nat) : Int) = 0 from rfl] at this
          rw [this, List.drop_zero]
          congr 1
          apply decide_eq_decide.2
          exact ⟨fun h => ⟨h1, h2, h3, h4, h⟩, fun h => h.2.2.2.2⟩
        · rw [decide_eq_true (by omega), if_pos rfl, decide_eq_false (fun h => h4 h.2.2.2.1)]
      · rw [if_pos (by omega)]
        simp only [mat_May.j0]
        rw [if_pos trivial, decide_eq_false (fun h => h3 h.2.2.1)]
    · rw [decide_eq_false (by omega), if_neg (by decide)]
      obtain ⟨k, rfl⟩ : ∃ m, k = m + 1 := ⟨k - 1, by omega⟩
      simp only [mat_May.j0]
      rw [if_pos trivial, decide_eq_false (fun h => h2 h.2.1)]
  · rw [if_neg (by omega)]
    simp only [Option.bind_some]
    rw [if_neg (by decide)]
    obtain ⟨k, rfl⟩ : ∃ m, k = m + 1 := ⟨k - 1, by omega⟩
    simp only [mat_May.j0]
    rw [if_pos trivial, decide_eq_false (fun h => h1 h.1)]
/-- The first row from i on that has something in column c. -/
def piv (M : List (List Int)) (c : Nat) : Nat → Nat → Int
  | 0, _ => -1
  | d + 1, i => if (M.getD i []).getD c 0 = 0 then piv M c d (i + 1) else (i : Int)
theorem pivot_l0 (M : List (List Int)) (c : Nat) (hM : M.length ≤ 64) (hc : ∀ r ∈ M, c < r.length) : ∀ (d i k : Nat), i + d = M.length → d < k →
    mat_pivot.l0 k M (c : Int) (i : Int) = some (piv M c d i) := by
  intro d
  induction d with
  | zero =>
    intro i k h hk
    obtain ⟨k, rfl⟩ : ∃ m, k = m + 1 := ⟨k - 1, by omega⟩
    simp only [mat_pivot.l0]
    rw [if_neg (by omega)]; rfl
  | succ d ih =>
    intro i k h hk
    obtain ⟨k, rfl⟩ : ∃ m, k = m + 1 := ⟨k - 1, by omega⟩
    simp only [mat_pivot.l0]
    have hi : i < M.length := by omega
    have hg : M.getD i [] = M[i] := by rw [List.getD_eq_getElem?_getD, List.getElem?_eq_getElem hi]; rfl
    have hl := hc M[i] (List.getElem_mem hi)
    rw [if_pos (by omega), if_pos (by omega), if_pos (by omega), rd_L1_nat, hg, if_pos (by omega)]
    have hr : Go.Proofs.YthblmkailhdhlaaW.PrintWords.rd M[i] (c : Int) = M[i].getD c 0 := by unfold Go.Proofs.YthblmkailhdhlaaW.PrintWords.rd; rw [Int.toNat_natCast]
    rw [hr]
    unfold piv
    rw [hg]
    by_cases h0 : M[i].getD c 0 = 0
    · rw [if_pos h0, if_pos h0, w64 (by omega) (by omega)]
      exact ih (i + 1) k (by omega) (by omega)
    · rw [if_neg h0, if_neg h0]
theorem pivot_f (M : List (List Int)) (c : Nat) (hM : M.length ≤ 64) (hc : ∀ r ∈ M, c < r.length) (hcM : c ≤ M.length) {k : Nat} (hk : 80 ≤ k) :
    mat_pivot.f k M (c : Int) = some (piv M c (M.length - c) c) := pivot_l0 M c hM hc (M.length - c) c k (by omega) (by omega)
end Go.Proofs.Ythblmkailhdhlaa.Mat
/- Walks over package mat: the product. -/
namespace Go.Proofs.Ythblmkailhdhlaa.Mat
set_option linter.unusedVariables false
open Go.RowKit Go.Proofs.Ythblmkailhdhlaa.F Go.Proofs.Ythblmkailhdhlaa.Gf Go.Proofs.Ythblmkailhdhlaa.P Go.Proofs.YthblmkailhdhlaaW.PrintWords
/-- A matrix of bytes that is read in memory. -/
def ReadsM (w : World) (A : Option Addr) (M : List (List Nat)) : Prop := Kd.C (Kd.slice 5 (Kd.int .u8)) w A M.length (mints M)
/-- A row of bytes that is read in memory. -/
def ReadsB (w : World) (A : Option Addr) (l : List Nat) : Prop := Kd.C (Kd.int .u8) w A l.length (ints l)
theorem mints_len (M : List (List Nat)) : (mints M).length = M.length := by simp [mints]
theorem ints_len (l : List Nat) : (ints l).length = l.length := by simp [ints]
theorem mints_get {M : List (List Nat)} {i : Nat} {l : List Nat} (h : M[i]? = some l) : (mints M).getD i [] = ints l := by
  unfold mints
  rw [List.getD_eq_getElem?_getD, List.getElem?_map, h]; rfl
theorem ReadsM.row {w : World} {A : Option Addr} {M : List (List Nat)} (h : ReadsM w A M) {i : Nat} {l : List Nat} (hl : M[i]? = some l) :
    ∃ ad Ai ci, A = some ad ∧ w.cell? (ad.add i) = some (.slice Ai l.length ci) ∧ l.length ≤ ci ∧ ReadsB w Ai l := by
  have hi := (List.getElem?_eq_some_iff.1 hl).1
  obtain ⟨ad, Ai, ci, e, h1, h2, h3⟩ := at_L1 h (i : Int) (by omega) (by omega)
  rw [rd_L1_nat, mints_get hl, ints_len] at h1 h2 h3
  rw [Int.toNat_natCast] at h1
  exact ⟨ad, Ai, ci, e, h1, h2, h3⟩
theorem ReadsB.cell {w : World} {A : Option Addr} {l : List Nat} (h : ReadsB w A l) {i x : Nat} (hx : l[i]? = some x) :
    ∃ ad, A = some ad ∧ w.cell? (ad.add i) = some (.int .u8 (x : Int)) := by
  have hi := (List.getElem?_eq_some_iff.1 hx).1
  obtain ⟨ad, c, e, hl, hr, hc⟩ := ReadsRow.get_ h 0 (i : Int) (by omega) (by omega)
  refine ⟨ad, e, ?_⟩
  have hr' : c = [Value.int .u8 ((ints l).getD (i : Int).toNat 0)] := hr
  have hg : (ints l).getD i 0 = (x : Int) := by unfold ints; rw [List.getD_eq_getElem?_getD, List.getElem?_map, hx]; rfl
  rw [Int.toNat_natCast, hg] at hr'
  have := hc 0 (.int .u8 (x : Int)) (by rw [hr']; rfl)
  rw [Int.toNat_natCast] at this
  have hs : (Kd.int .u8).sz = 1 := rfl
  rw [hs, Nat.mul_one, Nat.add_zero] at this
  exact this
theorem cell_lt {w : World} {a : Addr} {v : Value} (h : w.cell? a = some v) : a.block < w.heap.size := by
  unfold World.cell? at h
  by_cases hl : a.block < w.heap.size
  · exact hl
  · rw [Array.getElem?_eq_none (by omega)] at h
    cases h
theorem add_block (a : Addr) (n : Nat) : (a.add n).block = a.block := by unfold Addr.add; split <;> rfl
theorem may_calls (w : World) (A : Option Addr) (ca : Nat) (M : List (List Nat)) (h : ReadsM w A M) (hca : M.length ≤ ca) :
    Calls Try.prog 42 #[.slice A M.length ca] w fun e w' => e = .returned (.bool (decide (mayP (mints M)))) ∧ ∃ n, w' = w.drewN n := by
  have := mat_May.calls 80 A ca (mints M) _ w (by rw [mints_len]; exact h) (by rw [mints_len]; exact hca) (may_f _ (by omega))
  rw [mints_len] at this
  exact this.mono fun e w' ⟨he, hw⟩ => ⟨he, hw.out⟩
/-- May a matrix be? -/
def mayN (M : List (List Nat)) : Prop := 1 ≤ M.length ∧ M.length ≤ 64 ∧ 1 ≤ (M.getD 0 []).length ∧ (M.getD 0 []).length ≤ 4096 ∧ ∀ r ∈ M, r.length = (M.getD 0 []).length
instance (M : List (List Nat)) : Decidable (mayN M) := by unfold mayN; exact inferInstance
theorem mints_head (M : List (List Nat)) : (mints M).getD 0 [] = ints (M.getD 0 []) := by
  cases M <;> rfl
theorem mayN_iff (M : List (List Nat)) : mayP (mints M) ↔ mayN M := by
  unfold mayP mayN
  rw [mints_len, mints_head, ints_len]
  constructor
  · rintro ⟨h1, h2, h3, h4, h5⟩
    refine ⟨h1, h2, h3, h4, fun r hr => ?_⟩
    have := h5 (ints r) (List.mem_map.2 ⟨r, hr, rfl⟩)
    rwa [ints_len] at this
  · rintro ⟨h1, h2, h3, h4, h5⟩
    refine ⟨h1, h2, h3, h4, fun r hr => ?_⟩
    obtain ⟨l, hl, rfl⟩ := List.mem_map.1 hr
    rw [ints_len]; exact h5 l hl
/-- All its numbers are bytes. -/
def Bytes (M : List (List Nat)) : Prop := ∀ l ∈ M, ∀ x ∈ l, x < 256
/-- A row with so many times another one. -/
def addRow (ys : List Nat) (x : Nat) (xs : List Nat) : List Nat := List.zipWith (fun y v => y ^^^ gm x v) ys xs
/-- A row's product with a matrix of so many columns. -/
def mulRow (b : List (List Nat)) (c : Nat) (row : List Nat) : List Nat := (row.zip b).foldl (fun ys p => addRow ys p.1 p.2) (List.replicate c 0)
/-- The product. -/
def mulM (a b : List (List Nat)) : List (List Nat) := a.map (mulRow b (b.getD 0 []).length)
theorem addRow_len (ys : List Nat) (x : Nat) (xs : List Nat) (h : xs.length = ys.length) : (addRow ys x xs).length = ys.length := by simp [addRow]; omega
theorem addRow_lt {ys xs : List Nat} {x : Nat} (hy : ∀ y ∈ ys, y < 256) : ∀ y ∈ addRow ys x xs, y < 256 := by
  intro y h
  unfold addRow at h
  rw [List.zipWith_eq_zipWith_take_min] at h
  obtain ⟨i, hi, e⟩ := List.getElem_of_mem h
  rw [List.getElem_zipWith] at e
  rw [← e]
  refine xor_lt (hy _ ?_) (gm_lt _ _)
  exact List.mem_of_mem_take (List.getElem_mem _)
theorem fold_len (c : Nat) : ∀ (l : List (Nat × List Nat)) (ys : List Nat), ys.length = c → (∀ p ∈ l, p.2.length = c) → (l.foldl (fun ys p => addRow ys p.1 p.2) ys).length = c
  | [], ys, h, _ => h
  | p :: l, ys, h, hp => by
    refine fold_len c l _ ?_ (fun q hq => hp q (List.mem_cons_of_mem _ hq))
    rw [addRow_len _ _ _ (by rw [hp p List.mem_cons_self, h]), h]
theorem fold_lt : ∀ (l : List (Nat × List Nat)) (ys : List Nat), (∀ y ∈ ys, y < 256) → ∀ y ∈ l.foldl (fun ys p => addRow ys p.1 p.2) ys, y < 256
  | [], ys, h => h
  | p :: l, ys, h => fold_lt l _ (addRow_lt h)
theorem mulRow_len {b : List (List Nat)} {c : Nat} (row : List Nat) (hb : ∀ r ∈ b, r.length = c) : (mulRow b c row).length = c := by
  refine fold_len c _ _ (by simp) (fun p hp => hb _ (List.of_mem_zip hp).2)
theorem mulRow_lt {b : List (List Nat)} {c : Nat} (row : List Nat) : ∀ y ∈ mulRow b c row, y < 256 := by
  refine fold_lt _ _ (fun y hy => ?_)
  rw [List.mem_replicate] at hy
  omega
theorem zip_take : ∀ (k : Nat) (row : List Nat) (b : List (List Nat)), (row.take k).zip b = (row.zip b).take k
  | 0, row, b => by simp
  | k + 1, [], b => by simp
  | k + 1, x :: row, [] => by simp
  | k + 1, x :: row, y :: b => by simp [zip_take k row b]
theorem mulRow_step {b : List (List Nat)} {c j x : Nat} {row br : List Nat} (hx : row[j]? = some x) (hb : b[j]? = some br) : mulRow b c (row.take (j + 1)) = addRow (mulRow b c (row.take j)) x br := by
  obtain ⟨h1, e1⟩ := List.getElem?_eq_some_iff.1 hx
  obtain ⟨h2, e2⟩ := List.getElem?_eq_some_iff.1 hb
  unfold mulRow
  have : (row.take (j + 1)).zip b = (row.take j).zip b ++ [(x, br)] := by
    rw [zip_take, zip_take, List.take_succ_eq_append_getElem (by simp; omega)]
    simp [e1, e2]
  rw [this, List.foldl_append]
  rfl
/-- The product, of whose row i so many numbers have been gone through. -/
def stage (a b : List (List Nat)) (c i j : Nat) : List (List Nat) := (List.range a.length).map fun r => if r < i then mulRow b c (a.getD r []) else if r = i then mulRow b c ((a.getD r []).take j) else List.replicate c 0
theorem stage_len (a b : List (List Nat)) (c i j : Nat) : (stage a b c i j).length = a.length := by simp [stage]
theorem stage_get (a b : List (List Nat)) (c i j r : Nat) (h : r < a.length) : (stage a b c i j)[r]? = some (if r < i then mulRow b c (a.getD r []) else if r = i then mulRow b c ((a.getD r []).take j) else List.replicate c 0) := by
  unfold stage; rw [List.getElem?_map, List.getElem?_range h]; rfl
theorem mulRow_nil (b : List (List Nat)) (c : Nat) : mulRow b c [] = List.replicate c 0 := rfl
theorem stage_zero (a b : List (List Nat)) (c : Nat) : stage a b c 0 0 = grid a.length c (fun _ _ => 0) := by
  apply List.ext_getElem?
  intro r
  by_cases h : r < a.length
  · rw [stage_get _ _ _ _ _ _ h, grid_get _ _ _ h, if_neg (by omega)]
    have e : (List.range c).map (fun _ => 0) = List.replicate c 0 := by
      apply List.ext_getElem?
      intro q
      rw [List.getElem?_map, List.getElem?_replicate]
      by_cases hq : q < c
      · rw [List.getElem?_range hq, if_pos hq]; rfl
      · rw [List.getElem?_eq_none (by simp; omega), if_neg hq]; rfl
    rw [e]
    split
    · rw [List.take_zero, mulRow_nil]
    · rfl
  · rw [List.getElem?_eq_none (by rw [stage_len]; omega), List.getElem?_eq_none (by rw [grid_len]; omega)]
theorem stage_next (a b : List (List Nat)) (c i : Nat) (row : List Nat) (hi : a[i]? = some row) : stage a b c i row.length = stage a b c (i + 1) 0 := by
  obtain ⟨h1, e1⟩ := List.getElem?_eq_some_iff.1 hi
  apply List.ext_getElem?
  intro r
  by_cases h : r < a.length
  · rw [stage_get _ _ _ _ _ _ h, stage_get _ _ _ _ _ _ h]
    by_cases h2 : r < i
    · rw [if_pos h2, if_pos (by omega)]
    · rw [if_neg h2]
      by_cases h3 : r = i
      · subst h3
        have hg : a.getD r [] = row := by rw [List.getD_eq_getElem?_getD, hi]; rfl
        rw [if_pos rfl, if_pos (by omega), hg, List.take_length]
      · rw [if_neg h3, if_neg (by omega)]
        split
        · rw [List.take_zero, mulRow_nil]
        · rfl
  · rw [List.getElem?_eq_none (by rw [stage_len]; omega), List.getElem?_eq_none (by rw [stage_len]; omega)]
theorem stage_set (a b : List (List Nat)) (c i j : Nat) (row br : List Nat) (x : Nat) (hi : a[i]? = some row) (hx : row[j]? = some x) (hb : b[j]? = some br) :
    (stage a b c i j).set i (addRow (mulRow b c (row.take j)) x br) = stage a b c i (j + 1) := by
  obtain ⟨h1, e1⟩ := List.getElem?_eq_some_iff.1 hi
  have hg : a.getD i [] = row := by rw [List.getD_eq_getElem?_getD, hi]; rfl
  apply List.ext_getElem?
  intro r
  rw [List.getElem?_set, stage_len]
  by_cases h : r < a.length
  · rw [stage_get _ _ _ _ _ _ h, stage_get _ _ _ _ _ _ h]
    by_cases h2 : i = r
    · subst h2
      rw [if_pos rfl, if_pos h1, if_neg (by omega), if_pos rfl, hg, mulRow_step hx hb]
    · rw [if_neg h2]
      by_cases h3 : r < i
      · rw [if_pos h3, if_pos h3]
      · rw [if_neg h3, if_neg h3, if_neg (by omega), if_neg (by omega)]
  · rw [List.getElem?_eq_none (by rw [stage_len]; omega), List.getElem?_eq_none (by rw [stage_len]; omega)]
    split
    · omega
    · rfl
theorem stage_done (a b : List (List Nat)) (c : Nat) : stage a b c a.length 0 = a.map (mulRow b c) := by
  apply List.ext_getElem?
  intro r
  by_cases h : r < a.length
  · rw [stage_get _ _ _ _ _ _ h, if_pos h, List.getElem?_map, List.getD_eq_getElem?_getD, List.getElem?_eq_getElem h]; rfl
  · rw [List.getElem?_eq_none (by rw [stage_len]; omega), List.getElem?_eq_none (by simp; omega)]
end Go.Proofs.Ythblmkailhdhlaa.Mat
/- Walks over package mat: Mul. -/
namespace Go.Proofs.Ythblmkailhdhlaa.Mat
set_option linter.unusedVariables false
open Go.RowKit Go.Proofs.Ythblmkailhdhlaa.F Go.Proofs.Ythblmkailhdhlaa.Gf Go.Proofs.Ythblmkailhdhlaa.P Go.Proofs.YthblmkailhdhlaaW.PrintWords
theorem MatIs.cell {w : World} {B ob : Nat} {bs : List Nat} {M : List (List Nat)} (h : MatIs w B ob bs M) {i b : Nat} {l : List Nat} (hb : bs[i]? = some b) (hl : M[i]? = some l) : w.cell? ⟨ob, i, none⟩ = some (rowVal b l) := by
  rw [cell_block h.outer, List.getElem?_toArray, List.getElem?_zipWith, hb, hl]
theorem MatIs.free {w : World} {B ob : Nat} {bs : List Nat} {M : List (List Nat)} (h : MatIs w B ob bs M) (i : Nat) : w.frozen? ⟨ob, i, none⟩ = false := by
  simp [World.frozen?, h.outer]
theorem MatIs.block {w : World} {B ob : Nat} {bs : List Nat} {M : List (List Nat)} (h : MatIs w B ob bs M) {i : Nat} {l : List Nat} (hl : M[i]? = some l) : ∃ b, bs[i]? = some b ∧ B ≤ b ∧ b ≠ ob ∧ RowIs w b l := by
  have h1 := (List.getElem?_eq_some_iff.1 hl).1
  have hb : bs[i]? = some (bs[i]'(h.len ▸ h1)) := List.getElem?_eq_getElem _
  refine ⟨_, hb, h.lows _ (List.getElem_mem _), fun e => ?_, h.rows _ _ _ hb hl⟩
  have h2 : w.heap[bs[i]'(h.len ▸ h1)]? = some (.cells (vals l).toArray 5 (0, 0)) := h.rows _ _ _ hb hl
  rw [e, h.outer] at h2
  injection h2 with h2
  injection h2 with _ h2
  cases h2
theorem zip_set_same {bs : List Nat} {M : List (List Nat)} {i : Nat} {l l' : List Nat} (hl : M[i]? = some l) (hlen : l'.length = l.length) : List.zipWith rowVal bs (M.set i l') = List.zipWith rowVal bs M := by
  apply List.ext_getElem?
  intro j
  rw [List.getElem?_zipWith, List.getElem?_zipWith, List.getElem?_set]
  by_cases h : i = j
  · subst h
    have := (List.getElem?_eq_some_iff.1 hl).1
    rw [if_pos rfl, if_pos this, hl]
    cases bs[i]? with
    | none => rfl
    | some b => simp [rowVal, hlen]
  · rw [if_neg h]
/-- Another row is there. -/
theorem MatIs.put {w w' : World} {B ob : Nat} {bs : List Nat} {M : List (List Nat)} (h : MatIs w B ob bs M) {i b : Nat} {l l' : List Nat} (hb : bs[i]? = some b) (hl : M[i]? = some l) (hlen : l'.length = l.length) (hne : b ≠ ob) (ho : Only b w w') (hr : RowIs w' b l') : MatIs w' B ob bs (M.set i l') := by
  refine ⟨by rw [List.length_set]; exact h.len, ?_, fun j b' m hb' hm => ?_, h.nodup, h.low, h.lows, by rw [List.length_set]; exact h.small, fun m hm => ?_⟩
  · rw [ho.other _ (fun e => hne e.symm), h.outer, zip_set_same hl hlen]
  · rw [List.getElem?_set] at hm
    by_cases e : i = j
    · subst e
      have := (List.getElem?_eq_some_iff.1 hl).1
      rw [if_pos rfl, if_pos this] at hm
      injection hm with hm
      rw [hb] at hb'
      injection hb' with hb'
      subst hm; subst hb'
      exact hr
    · rw [if_neg e] at hm
      have h1 := h.rows j b' m hb' hm
      have hbb : b' ≠ b := by
        intro e'
        subst e'
        obtain ⟨p1, q1⟩ := List.getElem?_eq_some_iff.1 hb
        obtain ⟨p2, q2⟩ := List.getElem?_eq_some_iff.1 hb'
        exact e ((List.getElem_inj h.nodup).1 (q1.trans q2.symm))
      exact (ho.other b' hbb).trans h1
  · rcases List.mem_or_eq_of_mem_set hm with hm | rfl
    · exact h.smalls m hm
    · rw [hlen]; exact h.smalls l (List.mem_of_getElem? hl)
theorem MatIs.drewN {w : World} {B ob : Nat} {bs : List Nat} {M : List (List Nat)} (h : MatIs w B ob bs M) (n : Nat) : MatIs (w.drewN n) B ob bs M := ⟨h.len, h.outer, h.rows, h.nodup, h.low, h.lows, h.small, h.smalls⟩
set_option maxRecDepth 100000 in
set_option maxHeartbeats 2000000 in
theorem mul_bad (w : World) (A B : Option Addr) (ca cb : Nat) (a b : List (List Nat)) (ha : ReadsM w A a) (hca : a.length ≤ ca) (hb : ReadsM w B b) (hcb : b.length ≤ cb)
    (h : ¬ (mayN a ∧ mayN b ∧ (a.getD 0 []).length = b.length)) :
    Calls Try.prog 48 #[.slice A a.length ca, .slice B b.length cb] w fun e w' => e = .returned (.tuple #[.slice none 0 0, .int .i64 1]) ∧ ∃ n, w' = w.drewN n := by
  by_cases h1 : mayN a
  · by_cases h2 : mayN b
    · have h3 : ¬ (a.getD 0 []).length = b.length := fun e => h ⟨h1, h2, e⟩
      have hma := may_calls w A ca a ha hca
      rw [decide_eq_true ((mayN_iff a).2 h1)] at hma
      have hmb : ∀ n, Calls Try.prog 42 #[.slice B b.length cb] (w.drewN n) fun e w' => e = .returned (.bool true) ∧ ∃ m, w' = (w.drewN n).drewN m := fun n => by
        have := may_calls (w.drewN n) B cb b hb hcb
        rwa [decide_eq_true ((mayN_iff b).2 h2)] at this
      have ha0 : a[0]? = some (a.getD 0 []) := by
        have := h1.1
        rw [List.getD_eq_getElem?_getD, List.getElem?_eq_getElem (by omega)]; rfl
      obtain ⟨ad, Ai, ci, rfl, hc0, hl0, _⟩ := ha.row ha0
      have hca0 : w.cell? ad = some (.slice Ai (a.getD 0 []).length ci) := by simpa [Addr.add] using hc0
      have hne : (((a.getD 0 []).length : Int) != (b.length : Int)) = true := bne_iff_ne.2 (by omega)
      have hl1 := h1.1
      have hl2 := h1.2.1
      have hl3 := h1.2.2.2.1
      have hl4 := h2.2.1
      generalize (a.getD 0 []).length = q at *
      generalize a.length = n at *
      generalize b.length = m at *
      have HMA := Lib.hid hma
      have HMB := Lib.hid hmb
      clear hma hmb ha0 hc0 h ha hb h1 h2 h3
      go_enter Try.func48, Try.ntmps48
      go_wp2_with fail
      refine HMA.out.mono ?_
      rintro e w1 ⟨rfl, n1, rfl⟩
      go_wp2_with fail
      refine (HMB.out _).mono ?_
      rintro e w1 ⟨rfl, n2, rfl⟩
      go_wp2_with fail
      go_ret2
      exact ⟨rfl, _, rfl⟩
    · have hma := may_calls w A ca a ha hca
      rw [decide_eq_true ((mayN_iff a).2 h1)] at hma
      have hmb : ∀ n, Calls Try.prog 42 #[.slice B b.length cb] (w.drewN n) fun e w' => e = .returned (.bool false) ∧ ∃ m, w' = (w.drewN n).drewN m := fun n => by
        have := may_calls (w.drewN n) B cb b hb hcb
        rwa [decide_eq_false (fun h => h2 ((mayN_iff b).1 h))] at this
      generalize a.length = n at *
      generalize b.length = m at *
      have HMA := Lib.hid hma
      have HMB := Lib.hid hmb
      clear hma hmb h ha hb h1 h2
      go_enter Try.func48, Try.ntmps48
      go_wp2_with fail
      refine HMA.out.mono ?_
      rintro e w1 ⟨rfl, n1, rfl⟩
      go_wp2_with fail
      refine (HMB.out _).mono ?_
      rintro e w1 ⟨rfl, n2, rfl⟩
      go_wp2_with fail
      go_ret2
      exact ⟨rfl, _, rfl⟩
  · have hma := may_calls w A ca a ha hca
    rw [decide_eq_false (fun h => h1 ((mayN_iff a).1 h))] at hma
    generalize a.length = n at *
    generalize b.length = m at *
    have HMA := Lib.hid hma
    clear hma h ha hb h1
    go_enter Try.func48, Try.ntmps48
    go_wp2_with fail
    refine HMA.out.mono ?_
    rintro e w1 ⟨rfl, n1, rfl⟩
    go_wp2_with fail
    go_ret2
    exact ⟨rfl, _, rfl⟩
set_option maxRecDepth 100000 in
set_option maxHeartbeats 8000000 in
theorem mul_good (w : World) (A B : Option Addr) (ca cb : Nat) (a b : List (List Nat)) (ha : ReadsM w A a) (hca : a.length ≤ ca) (hb : ReadsM w B b) (hcb : b.length ≤ cb)
    (h1 : mayN a) (h2 : mayN b) (h3 : (a.getD 0 []).length = b.length) (hab : Bytes a) (hbb : Bytes b) :
    Calls Try.prog 48 #[.slice A a.length ca, .slice B b.length cb] w fun e w' => ∃ ob bs, e = .returned (.tuple #[.slice (some ⟨ob, 0, none⟩) a.length a.length, .int .i64 0]) ∧ MatIs w' w.heap.size ob bs (mulM a b) ∧ Below w.heap.size w w' := by
  have hma := may_calls w A ca a ha hca
  rw [decide_eq_true ((mayN_iff a).2 h1)] at hma
  have hmb : ∀ n, Calls Try.prog 42 #[.slice B b.length cb] (w.drewN n) fun e w' => e = .returned (.bool true) ∧ ∃ m, w' = (w.drewN n).drewN m := fun n => by
    have := may_calls (w.drewN n) B cb b hb hcb
    rwa [decide_eq_true ((mayN_iff b).2 h2)] at this
  have ha0 : a[0]? = some (a.getD 0 []) := by
    have := h1.1
    rw [List.getD_eq_getElem?_getD, List.getElem?_eq_getElem (by omega)]; rfl
  have hb0 : b[0]? = some (b.getD 0 []) := by
    have := h2.1
    rw [List.getD_eq_getElem?_getD, List.getElem?_eq_getElem (by omega)]; rfl
  obtain ⟨ad, Ai, ci, rfl, hc0, hl0, _⟩ := ha.row ha0
  obtain ⟨bd, Bi, di, rfl, hd0, hm0, _⟩ := hb.row hb0
  have hca0 : w.cell? ad = some (.slice Ai (a.getD 0 []).length ci) := by simpa [Addr.add] using hc0
  have hcb0 : w.cell? bd = some (.slice Bi (b.getD 0 []).length di) := by simpa [Addr.add] using hd0
  have hne : (((a.getD 0 []).length : Int) != (b.length : Int)) = false := bne_eq_false_iff_eq.2 (by omega)
  have hl1 := h1.1
  have hl2 := h1.2.1
  have hl3 := h2.1
  have hl4 := h2.2.1
  have hq1 := h2.2.2.1
  have hq2 := h2.2.2.2.1
  have HRA : Hid (∀ (i : Nat) (l : List Nat), a[i]? = some l → l.length = b.length) := fun i l hl => by
    rw [← h3]; exact h1.2.2.2.2 l (List.mem_of_getElem? hl)
  have HRB : Hid (∀ (i : Nat) (l : List Nat), b[i]? = some l → l.length = (b.getD 0 []).length) := fun i l hl => h2.2.2.2.2 l (List.mem_of_getElem? hl)
  have HAR := Lib.hid ha
  have HBR := Lib.hid hb
  have HAB := Lib.hid hab
  have HBB := Lib.hid hbb
  generalize hQ : (a.getD 0 []).length = q at *
  generalize hC : (b.getD 0 []).length = c at *
  generalize hN : a.length = n at *
  generalize hM : b.length = m at *
  have HC := Lib.hid hC
  have HN := Lib.hid hN
  have HM := Lib.hid hM
  have HMA := Lib.hid hma
  have HMB := Lib.hid hmb
  obtain rfl : q = m := h3
  clear hma hmb ha0 hb0 hc0 hd0 h1 h2 ha hb hab hbb hQ hC hN hM
  go_enter Try.func48, Try.ntmps48
  go_wp2_with fail
  refine HMA.out.mono ?_
  rintro e w1 ⟨rfl, n1, rfl⟩
  go_wp2_with fail
  refine (HMB.out _).mono ?_
  rintro e w1 ⟨rfl, n2, rfl⟩
  go_wp2_with fail
  refine (new_calls _).mono ?_
  rintro e w1 ⟨rfl, ht, hb1⟩
  have HT := Lib.hid ht
  have HB1 : Hid (Below w.heap.size w w1) := (below_drewN' _ (Below.refl w.heap.size w)).trans hb1
  have hcb1 : w1.cell? bd = some (.slice Bi c di) := by
    rw [hb1.cell (cell_lt (by exact hcb0))]; exact hcb0
  clear ht hb1
  go_wp2_with fail
  refine (filled_calls _ n c (by omega) (by omega) (fun _ _ => 0) 71 #[] calls71 (fun w2 i k _ _ _ => zero_at w2 i k)).mono ?_
  rintro e w2 ⟨rfl, hf⟩
  have hf' := hf.mat (by omega) (by omega)
  have hst := stage_zero a b c
  rw [HN.out] at hst
  rw [← hst] at hf'
  have hgeO := HB1.out.size
  generalize hO : w1.heap.size = ob at *
  generalize List.range' (ob + 1) n = bs at *
  have HS := Lib.hid (hf'.lower hgeO)
  have HB2 : Hid (Below w.heap.size w w2) := HB1.out.trans (hf.below.mono (by rw [hO]; exact hgeO))
  have HT2 : Hid (Tab w2 w.heap.size) := HT.out.below hf.below
  clear hf hf' hst hgeO hO HT HB1 hcb1 hca0 hcb0
  go_wp2_with fail
  go_loopw [39] (fun v39 wr => ∃ i : Nat, i ≤ n ∧ v39 = .int .i64 i ∧ Hid (MatIs wr w.heap.size ob bs (stage a b c i 0)) ∧ Hid (Below w.heap.size w wr) ∧ Hid (Tab wr w.heap.size)) (fun v _ => n - (intOf v).toNat)
  case atStart => exact ⟨0, by omega, rfl, HS, HB2, HT2⟩
  case round =>
    clear HS HB2 HT2
    obtain ⟨i, hi, rfl, HS, HB2, HT2⟩ := hrel
    by_cases hlt : i < n
    · obtain ⟨row, hrow⟩ : ∃ row, a[i]? = some row := ⟨_, List.getElem?_eq_getElem (by rw [HN.out]; exact hlt)⟩
      obtain ⟨ad', Aj, cj, e1, hac0, hlj, hrd⟩ := HAR.out.row hrow
      cases e1
      have hac := (HB2.out.cell (cell_lt hac0)).trans hac0
      have hrl := HRA.out i row hrow
      obtain ⟨x0, hx0⟩ : ∃ x0, row[0]? = some x0 := ⟨_, List.getElem?_eq_getElem (by omega)⟩
      obtain ⟨rd, rfl, _⟩ := hrd.cell hx0
      rw [hrl] at hac hlj
      have HROW := Lib.hid hrow
      have HRD := Lib.hid hrd
      have HRL := Lib.hid hrl
      clear hrow hrd hrl hac0 hx0
      go_wp2_with fail
      go_loopw [46] (fun v46 wx => ∃ j : Nat, j ≤ q ∧ v46 = .int .i64 j ∧ Hid (MatIs wx w.heap.size ob bs (stage a b c i j)) ∧ Hid (Below w.heap.size w wx) ∧ Hid (Tab wx w.heap.size)) (fun v _ => q - (intOf v).toNat)
      case atStart => exact ⟨0, by omega, rfl, HS, HB2, HT2⟩
      case round =>
        clear HS HB2 HT2 hac
        obtain ⟨j, hj, rfl, HS, HB2, HT2⟩ := hrel
        by_cases hjq : j < q
        · obtain ⟨x, hx⟩ : ∃ x, row[j]? = some x := ⟨_, List.getElem?_eq_getElem (by rw [HRL.out]; exact hjq)⟩
          obtain ⟨br, hbr⟩ : ∃ br, b[j]? = some br := ⟨_, List.getElem?_eq_getElem (by rw [HM.out]; exact hjq)⟩
          obtain ⟨bd', Bj, dj, e1, hbc0, hdj, hbd⟩ := HBR.out.row hbr
          cases e1
          have hbrl := HRB.out j br hbr
          obtain ⟨y0, hy0⟩ : ∃ y0, br[0]? = some y0 := ⟨_, List.getElem?_eq_getElem (by omega)⟩
          obtain ⟨bd2, rfl, hbd0⟩ := hbd.cell hy0
          have hbc := (HB2.out.cell (cell_lt hbc0)).trans hbc0
          rw [hbrl] at hbc hdj
          have hxl : x < 256 := HAB.out row (List.mem_of_getElem? HROW.out) x (List.mem_of_getElem? hx)
          obtain ⟨rd', e2, hxc0⟩ := HRD.out.cell hx
          cases e2
          have hxc := (HB2.out.cell (cell_lt hxc0)).trans hxc0
          have hlt' : i < a.length := by rw [HN.out]; exact hlt
          have hcur : (stage a b c i j)[i]? = some (mulRow b c (row.take j)) := by
            rw [stage_get _ _ _ _ _ _ hlt', if_neg (by omega), if_pos rfl]
            congr 2
            rw [List.getD_eq_getElem?_getD, HROW.out]; rfl
          obtain ⟨bi, hbi, hbge, hbne, hrow⟩ := HS.out.block hcur
          have hcl : (mulRow b c (row.take j)).length = c := mulRow_len _ (fun r hr => by
            obtain ⟨t, ht, rfl⟩ := List.getElem_of_mem hr
            exact HRB.out t _ (List.getElem?_eq_getElem ht))
          have hoc := HS.out.cell hbi hcur
          unfold rowVal at hoc
          rw [hcl] at hoc
          have HADD : Hid (∀ nn, Calls Try.prog 69 #[.pointer (some ⟨w.heap.size, 0, none⟩), .slice (some ⟨bi, 0, none⟩) c c, .slice (some bd2) c dj, .int .u8 (x : Int)] (wr.drewN nn) fun e w' => e = .returned (.tuple #[]) ∧ RowIs w' bi (addRow (mulRow b c (row.take j)) x br) ∧ Only bi (wr.drewN nn) w') := fun nn => by
            have := add_calls' (wr.drewN nn) w.heap.size bi (mulRow b c (row.take j)) br x bd2 dj HT2.out hrow (by
                have := cell_lt hbd0
                rw [add_block] at this
                omega) (fun t z hz => by
                obtain ⟨bd3, e3, hz'⟩ := hbd.cell hz
                cases e3
                exact (HB2.out.cell (cell_lt hz')).trans hz') (by rw [hbrl, hcl]) (mulRow_lt _) (fun z hz => HBB.out br (List.mem_of_getElem? hbr) z hz) hxl (by rw [hcl]; exact hq2)
            rw [hcl, hbrl] at this
            exact this
          have HNXT : Hid (∀ w', RowIs w' bi (addRow (mulRow b c (row.take j)) x br) → Only bi wr w' → MatIs w' w.heap.size ob bs (stage a b c i (j + 1)) ∧ Below w.heap.size w w' ∧ Tab w' w.heap.size) := fun w' hr ho => by
            have h1 := HS.out.put hbi hcur (by rw [addRow_len _ _ _ (by rw [hbrl, hcl])]) hbne ho hr
            rw [stage_set a b c i j row br x HROW.out hx hbr] at h1
            refine ⟨h1, HB2.out.trans (ho.below hbge), ?_⟩
            have hT : wr.heap[w.heap.size]? = some (.cells tab 39 (0, 0)) := HT2.out
            have : w.heap.size ≠ bi := by
              intro e
              rw [e] at hT
              have h2 : wr.heap[bi]? = some (.cells (vals (mulRow b c (row.take j))).toArray 5 (0, 0)) := hrow
              rw [hT] at h2
              injection h2 with h2
              injection h2 with _ h2
              cases h2
            exact (ho.other _ this).trans hT
          clear hx hbr hbc0 hbd hbd0 hy0 hxc0 hlt' hcur hbi hbge hbne hrow hcl hbrl
          go_wp2_with fail
          go_region_with (go_at_call 69; refine (show Calls Try.prog 69 _ wr.drew _ from HADD.out 1).mono ?_; rintro e w3 ⟨rfl, hr3, ho3⟩)
          all_goals
            have HX := Lib.hid (HNXT.out w3 hr3 ⟨ho3.os, ho3.tape, ho3.output, ho3.size, ho3.other⟩)
            clear hr3 ho3
            go_wp2_with fail
            go_roundw
            case rel => exact ⟨j + 1, by omega, by go_num, HX.out.1, HX.out.2.1, HX.out.2.2⟩
            case measure => simp [intOf]; omega
        · have hjq' : j = q := by omega
          have HS' : Hid (MatIs wr w.heap.size ob bs (stage a b c (i + 1) 0)) := by
            have := HS.out
            rw [hjq', ← HRL.out, stage_next a b c i row HROW.out] at this
            exact this
          clear hjq'
          go_wp2_with fail
          go_roundw
          case rel => exact ⟨i + 1, by omega, by go_num, HS', HB2, HT2⟩
          case measure => simp [intOf]; omega
    · have hin : i = n := by omega
      have HS' : Hid (MatIs wr w.heap.size ob bs (mulM a b)) := by
        have := HS.out
        rw [hin, ← HN.out, stage_done, ← HC.out] at this
        exact this
      clear hin
      go_wp2_with fail
      go_ret2
      exact ⟨_, _, rfl, HS'.out, HB2.out⟩
end Go.Proofs.Ythblmkailhdhlaa.Mat
/- What mat.Inv does, in plain Lean, and what it does to memory: rows swapped, rows turned. -/
namespace Go.Proofs.Ythblmkailhdhlaa.Mat
set_option linter.unusedVariables false
open Go.RowKit Go.Proofs.Ythblmkailhdhlaa.F Go.Proofs.Ythblmkailhdhlaa.Gf Go.Proofs.Ythblmkailhdhlaa.P Go.Proofs.YthblmkailhdhlaaW.PrintWords
/-! ### In plain Lean -/
/-- The number in row r and column c. -/
def el (M : List (List Nat)) (r c : Nat) : Nat := (M.getD r []).getD c 0
/-- The first row from i on that has something in column c. -/
def pivN (M : List (List Nat)) (c : Nat) : Nat → Nat → Option Nat
  | 0, _ => none
  | d + 1, i => if el M i c = 0 then pivN M c d (i + 1) else some i
/-- Two rows in each other's places. -/
def swapL {α : Type} (l : List α) (c p : Nat) : List α := match l[c]?, l[p]? with
  | some x, some y => (l.set c y).set p x
  | _, _ => l
/-- Row c so many times. -/
def scale (M : List (List Nat)) (c by_ : Nat) : List (List Nat) := M.set c ((M.getD c []).map (gm · by_))
/-- Row i with so many times row c. -/
def addTo' (M : List (List Nat)) (i c x : Nat) : List (List Nat) := M.set i (addRow (M.getD i []) x (M.getD c []))
/-- Row i is rid of what it has in column c. -/
def rid (c : Nat) (S : List (List Nat) × List (List Nat)) (i : Nat) : List (List Nat) × List (List Nat) :=
  if i ≠ c ∧ el S.1 i c ≠ 0 then (addTo' S.1 i c (el S.1 i c), addTo' S.2 i c (el S.1 i c)) else S
/-- The rows from i on are rid of it. -/
def rids (c : Nat) : Nat → Nat → List (List Nat) × List (List Nat) → List (List Nat) × List (List Nat)
  | 0, _, S => S
  | d + 1, i, S => rids c d (i + 1) (rid c S i)
/-- What becomes of both before the rows are rid of column c: rows c and p swapped, row c divided. -/
def lead (c p : Nat) (S : List (List Nat) × List (List Nat)) : List (List Nat) × List (List Nat) :=
  (scale (swapL S.1 c p) c (dq 1 (el (swapL S.1 c p) c c)).1, scale (swapL S.2 c p) c (dq 1 (el (swapL S.1 c p) c c)).1)
/-- Column by column, d of them from c on. -/
def gauss : Nat → Nat → List (List Nat) × List (List Nat) → Option (List (List Nat) × List (List Nat))
  | 0, _, S => some S
  | d + 1, c, S => match pivN S.1 c (S.1.length - c) c with
    | none => none
    | some p => gauss d (c + 1) (rids c S.1.length 0 (lead c p S))
theorem swapL_len {α : Type} (l : List α) (c p : Nat) : (swapL l c p).length = l.length := by
  unfold swapL
  split
  · simp
  · rfl
theorem swapL_get {α : Type} {l : List α} {c p : Nat} (hc : c < l.length) (hp : p < l.length) (i : Nat) : (swapL l c p)[i]? = if i = p then l[c]? else if i = c then l[p]? else l[i]? := by
  unfold swapL
  rw [List.getElem?_eq_getElem hc, List.getElem?_eq_getElem hp]
  simp only
  rw [List.getElem?_set, List.getElem?_set]
  simp only [List.length_set]
  by_cases h1 : p = i
  · subst h1; rw [if_pos rfl, if_pos hp, if_pos rfl]
  · rw [if_neg h1, if_neg (show ¬ i = p by omega)]
    by_cases h2 : c = i
    · subst h2; rw [if_pos rfl, if_pos hc, if_pos rfl]
    · rw [if_neg h2, if_neg (show ¬ i = c by omega)]
theorem swapL_mem {α : Type} {l : List α} {c p : Nat} {x : α} (h : x ∈ swapL l c p) : x ∈ l := by
  unfold swapL at h
  split at h
  · rename_i a b ha hb
    rcases List.mem_or_eq_of_mem_set h with h | rfl
    · rcases List.mem_or_eq_of_mem_set h with h | rfl
      · exact h
      · exact List.mem_of_getElem? hb
    · exact List.mem_of_getElem? ha
  · exact h
theorem swapL_nodup {α : Type} {l : List α} {c p : Nat} (hc : c < l.length) (hp : p < l.length) (h : l.Nodup) : (swapL l c p).Nodup := by
  have key : ∀ a b : Nat, a < l.length → b < l.length → l[a]? = l[b]? → a = b := by
    intro a b ha hb e
    rw [List.getElem?_eq_getElem ha, List.getElem?_eq_getElem hb] at e
    injection e with e
    exact (List.getElem_inj h).1 e
  refine List.pairwise_iff_getElem.2 (fun i j hi hj hij e0 => ?_)
  have e : (swapL l c p)[i]? = (swapL l c p)[j]? := by rw [List.getElem?_eq_getElem hi, List.getElem?_eq_getElem hj, e0]
  rw [swapL_len] at hi hj
  rw [swapL_get hc hp, swapL_get hc hp] at e
  by_cases h1 : i = p
  · rw [if_pos h1, if_neg (show ¬ j = p by omega)] at e
    by_cases h2 : j = c
    · rw [if_pos h2] at e
      have := key _ _ hc hp e; omega
    · rw [if_neg h2] at e
      have := key _ _ hc hj e; omega
  · rw [if_neg h1] at e
    by_cases h3 : i = c
    · rw [if_pos h3] at e
      by_cases h2 : j = p
      · rw [if_pos h2] at e
        have := key _ _ hp hc e; omega
      · rw [if_neg h2, if_neg (show ¬ j = c by omega)] at e
        have := key _ _ hp hj e; omega
    · rw [if_neg h3] at e
      by_cases h2 : j = p
      · rw [if_pos h2] at e
        have := key _ _ hi hc e; omega
      · rw [if_neg h2] at e
        by_cases h4 : j = c
        · rw [if_pos h4] at e
          have := key _ _ hi hp e; omega
        · rw [if_neg h4] at e
          have := key _ _ hi hj e; omega
/-! ### In memory -/
theorem zip_swap {bs : List Nat} {M : List (List Nat)} {c p : Nat} (hl : bs.length = M.length) (hc : c < M.length) (hp : p < M.length) {bc bp : Nat} {lc lp : List Nat} (h1 : bs[c]? = some bc) (h2 : bs[p]? = some bp) (h3 : M[c]? = some lc) (h4 : M[p]? = some lp) :
    ((List.zipWith rowVal bs M).set c (rowVal bp lp)).set p (rowVal bc lc) = List.zipWith rowVal (swapL bs c p) (swapL M c p) := by
  apply List.ext_getElem?
  intro i
  have hz : (List.zipWith rowVal bs M).length = M.length := by rw [List.length_zipWith, hl, Nat.min_self]
  rw [List.getElem?_set, List.getElem?_set, List.getElem?_zipWith, List.getElem?_zipWith, swapL_get (by omega) (by omega), swapL_get hc hp]
  simp only [List.length_set, hz]
  by_cases e1 : p = i
  · subst e1; rw [if_pos rfl, if_pos hp, if_pos rfl, if_pos rfl, h1, h3]
  · rw [if_neg e1, if_neg (show ¬ i = p by omega), if_neg (show ¬ i = p by omega)]
    by_cases e2 : c = i
    · subst e2; rw [if_pos rfl, if_pos hc, if_pos rfl, if_pos rfl, h2, h4]
    · rw [if_neg e2, if_neg (show ¬ i = c by omega), if_neg (show ¬ i = c by omega)]
theorem MatIs.swap {w : World} {B ob : Nat} {bs : List Nat} {M : List (List Nat)} (h : MatIs w B ob bs M) {c p bc bp : Nat} {lc lp : List Nat} (h1 : bs[c]? = some bc) (h2 : bs[p]? = some bp) (h3 : M[c]? = some lc) (h4 : M[p]? = some lp) :
    MatIs ((w.setCell ⟨ob, c, none⟩ (rowVal bp lp)).setCell ⟨ob, p, none⟩ (rowVal bc lc)) B ob (swapL bs c p) (swapL M c p) := by
  have hc := (List.getElem?_eq_some_iff.1 h3).1
  have hp := (List.getElem?_eq_some_iff.1 h4).1
  have hl := h.len
  refine ⟨by rw [swapL_len, swapL_len]; exact h.len, ?_, fun i b l hb hm => ?_, swapL_nodup (by omega) (by omega) h.nodup, h.low, fun b hb => h.lows b (swapL_mem hb), by rw [swapL_len]; exact h.small, fun l hl => h.smalls l (swapL_mem hl)⟩
  · simp only [World.setCell, Array.getElem?_modify, h.outer, Option.map_some, Option.isSome_none]
    simp only [if_true]
    rw [← zip_swap h.len hc hp h1 h2 h3 h4]
    simp
  · rw [swapL_get (by omega) (by omega)] at hb
    rw [swapL_get hc hp] at hm
    have hr : RowIs w b l := by
      by_cases e1 : i = p
      · rw [if_pos e1] at hb hm; exact h.rows c b l hb hm
      · rw [if_neg e1] at hb hm
        by_cases e2 : i = c
        · rw [if_pos e2] at hb hm; exact h.rows p b l hb hm
        · rw [if_neg e2] at hb hm; exact h.rows i b l hb hm
    have hne : b ≠ ob := by
      intro e
      have h2 : w.heap[b]? = some (.cells (vals l).toArray 5 (0, 0)) := hr
      rw [e, h.outer] at h2
      injection h2 with h2
      injection h2 with _ h2
      cases h2
    unfold RowIs at hr ⊢
    rw [Below.heap_setCell _ _ _ _ hne, Below.heap_setCell _ _ _ _ hne]
    exact hr
/-- A block that is not this matrix's has been turned. -/
theorem MatIs.other {w w' : World} {B ob b : Nat} {bs : List Nat} {M : List (List Nat)} (h : MatIs w B ob bs M) (ho : ∀ k, k ≠ b → w'.heap[k]? = w.heap[k]?) (h1 : ob ≠ b) (h2 : b ∉ bs) : MatIs w' B ob bs M :=
  ⟨h.len, (ho _ h1).trans h.outer, fun i b' l hb hm => (ho b' (fun e => h2 (e ▸ List.mem_of_getElem? hb))).trans (h.rows i b' l hb hm), h.nodup, h.low, h.lows, h.small, h.smalls⟩
/-- So many rows and columns, bytes all. -/
def Square (n : Nat) (M : List (List Nat)) : Prop := M.length = n ∧ ∀ l ∈ M, l.length = n ∧ ∀ x ∈ l, x < 256
/-- Both matrices of the inversion in memory. -/
structure InvAt (w0 w : World) (n t B2 ol oo : Nat) (S : List (List Nat) × List (List Nat)) : Prop where
  mats : ∃ bl bo, MatIs w w0.heap.size ol bl S.1 ∧ MatIs w B2 oo bo S.2 ∧ (∀ b ∈ bl, b < B2)
  sep : ol < B2
  low : w0.heap.size ≤ B2
  tab : Tab w t
  below : Below w0.heap.size w0 w
  sq1 : Square n S.1
  sq2 : Square n S.2
  small : n ≤ 64
theorem Tab.ne_row {w : World} {t b : Nat} {l : List Nat} (h : Tab w t) (hr : RowIs w b l) : t ≠ b := by
  rintro rfl
  have h1 : w.heap[t]? = some (.cells (vals l).toArray 5 (0, 0)) := hr
  rw [show w.heap[t]? = _ from h] at h1
  injection h1 with h1
  injection h1 with _ h1
  cases h1
theorem InvAt.drewN {w0 w : World} {n t B2 ol oo : Nat} {S : List (List Nat) × List (List Nat)} (h : InvAt w0 w n t B2 ol oo S) (m : Nat) : InvAt w0 (w.drewN m) n t B2 ol oo S := by
  obtain ⟨bl, bo, h1, h2, h3⟩ := h.mats
  exact ⟨⟨bl, bo, h1.drewN m, h2.drewN m, h3⟩, h.sep, h.low, h.tab, below_drewN' m h.below, h.sq1, h.sq2, h.small⟩
theorem Square.set {n : Nat} {M : List (List Nat)} (h : Square n M) (i : Nat) {l : List Nat} (hl : l.length = n ∧ ∀ x ∈ l, x < 256) : Square n (M.set i l) :=
  ⟨by rw [List.length_set]; exact h.1, fun m hm => by
    rcases List.mem_or_eq_of_mem_set hm with hm | rfl
    · exact h.2 m hm
    · exact hl⟩
theorem Square.row {n : Nat} {M : List (List Nat)} (h : Square n M) {i : Nat} (hi : i < n) : ∃ l, M[i]? = some l ∧ M.getD i [] = l ∧ l.length = n ∧ ∀ x ∈ l, x < 256 := by
  have h1 : i < M.length := by rw [h.1]; exact hi
  refine ⟨M[i], List.getElem?_eq_getElem h1, by rw [List.getD_eq_getElem?_getD, List.getElem?_eq_getElem h1]; rfl, (h.2 _ (List.getElem_mem h1)).1, (h.2 _ (List.getElem_mem h1)).2⟩
theorem Square.swap {n : Nat} {M : List (List Nat)} (h : Square n M) (c p : Nat) : Square n (swapL M c p) := ⟨by rw [swapL_len]; exact h.1, fun l hl => h.2 l (swapL_mem hl)⟩
theorem Square.el {n : Nat} {M : List (List Nat)} (h : Square n M) {r c : Nat} (hr : r < n) (hc : c < n) : ∃ l x, M[r]? = some l ∧ l[c]? = some x ∧ el M r c = x ∧ x < 256 := by
  obtain ⟨l, h1, h2, h3, h4⟩ := h.row hr
  have h5 : c < l.length := by omega
  refine ⟨l, l[c], h1, List.getElem?_eq_getElem h5, ?_, h4 _ (List.getElem_mem h5)⟩
  unfold Mat.el
  rw [h2, List.getD_eq_getElem?_getD, List.getElem?_eq_getElem h5]; rfl
theorem setCell2_other {w : World} {ob c p k : Nat} {v u : Value} (h : k ≠ ob) : ((w.setCell ⟨ob, c, none⟩ v).setCell ⟨ob, p, none⟩ u).heap[k]? = w.heap[k]? := by
  rw [Below.heap_setCell _ _ _ _ h, Below.heap_setCell _ _ _ _ h]
section
variable {w0 w : World} {n t B2 ol oo : Nat} {L O : List (List Nat)} (h : InvAt w0 w n t B2 ol oo (L, O))
include h
theorem InvAt.swap1 {c p : Nat} (hc : c < n) (hp : p < n) :
    ∃ bc bp, w.cell? ⟨ol, c, none⟩ = some (.slice (some ⟨bc, 0, none⟩) n n) ∧ w.cell? ⟨ol, p, none⟩ = some (.slice (some ⟨bp, 0, none⟩) n n) ∧ (∀ j, w.frozen? ⟨ol, j, none⟩ = false) ∧
      InvAt w0 ((w.setCell ⟨ol, c, none⟩ (.slice (some ⟨bp, 0, none⟩) n n)).setCell ⟨ol, p, none⟩ (.slice (some ⟨bc, 0, none⟩) n n)) n t B2 ol oo (swapL L c p, O) := by
  obtain ⟨bl, bo, h1, h2, h3⟩ := h.mats
  obtain ⟨lc, e1, _, l1, _⟩ := h.sq1.row hc
  obtain ⟨lp, e2, _, l2, _⟩ := h.sq1.row hp
  obtain ⟨bc, q1, _, _, _⟩ := h1.block e1
  obtain ⟨bp, q2, _, _, _⟩ := h1.block e2
  have c1 := h1.cell q1 e1
  have c2 := h1.cell q2 e2
  have hm := h1.swap q1 q2 e1 e2
  unfold rowVal at c1 c2 hm
  rw [l1] at c1 hm
  rw [l2] at c2 hm
  refine ⟨bc, bp, c1, c2, h1.free, ⟨swapL bl c p, bo, hm, ?_, fun b hb => h3 b (swapL_mem hb)⟩, h.sep, h.low, ?_, ?_, h.sq1.swap c p, h.sq2, h.small⟩
  · refine h2.other (b := ol) (fun k hk => setCell2_other hk) (fun e => ?_) (fun hb => ?_)
    · have := h2.low; have := h.sep; omega
    · have := h2.lows ol hb; have := h.sep; omega
  · have hT : w.heap[t]? = some (.cells Gf.tab 39 (0, 0)) := h.tab
    have hne : t ≠ ol := by
      rintro rfl
      rw [h1.outer] at hT
      injection hT with hT
      injection hT with _ hT
      cases hT
    exact (setCell2_other hne).trans hT
  · exact (h.below.setCell h1.low _).setCell h1.low _
theorem InvAt.swap2 {c p : Nat} (hc : c < n) (hp : p < n) :
    ∃ bc bp, w.cell? ⟨oo, c, none⟩ = some (.slice (some ⟨bc, 0, none⟩) n n) ∧ w.cell? ⟨oo, p, none⟩ = some (.slice (some ⟨bp, 0, none⟩) n n) ∧ (∀ j, w.frozen? ⟨oo, j, none⟩ = false) ∧
      InvAt w0 ((w.setCell ⟨oo, c, none⟩ (.slice (some ⟨bp, 0, none⟩) n n)).setCell ⟨oo, p, none⟩ (.slice (some ⟨bc, 0, none⟩) n n)) n t B2 ol oo (L, swapL O c p) := by
  obtain ⟨bl, bo, h1, h2, h3⟩ := h.mats
  obtain ⟨lc, e1, _, l1, _⟩ := h.sq2.row hc
  obtain ⟨lp, e2, _, l2, _⟩ := h.sq2.row hp
  obtain ⟨bc, q1, _, _, _⟩ := h2.block e1
  obtain ⟨bp, q2, _, _, _⟩ := h2.block e2
  have c1 := h2.cell q1 e1
  have c2 := h2.cell q2 e2
  have hm := h2.swap q1 q2 e1 e2
  unfold rowVal at c1 c2 hm
  rw [l1] at c1 hm
  rw [l2] at c2 hm
  refine ⟨bc, bp, c1, c2, h2.free, ⟨bl, swapL bo c p, ?_, hm, h3⟩, h.sep, h.low, ?_, ?_, h.sq1, h.sq2.swap c p, h.small⟩
  · refine h1.other (b := oo) (fun k hk => setCell2_other hk) (fun e => ?_) (fun hb => ?_)
    · have := h2.low; have := h.sep; omega
    · have := h3 oo hb; have := h2.low; omega
  · have hT : w.heap[t]? = some (.cells Gf.tab 39 (0, 0)) := h.tab
    have hne : t ≠ oo := by
      rintro rfl
      rw [h2.outer] at hT
      injection hT with hT
      injection hT with _ hT
      cases hT
    exact (setCell2_other hne).trans hT
  · have := h.low
    have := h2.low
    exact (h.below.setCell (by show _ ≤ oo; omega) _).setCell (by show _ ≤ oo; omega) _
/-- Row i of the left one: where it lies, and what becomes of all when it is turned. -/
theorem InvAt.row1 {i : Nat} (hi : i < n) :
    ∃ b l, L[i]? = some l ∧ L.getD i [] = l ∧ l.length = n ∧ (∀ x ∈ l, x < 256) ∧ w.cell? ⟨ol, i, none⟩ = some (.slice (some ⟨b, 0, none⟩) n n) ∧ RowIs w b l ∧
      (∀ j b' : Nat, j ≠ i → j < n → w.cell? ⟨ol, j, none⟩ = some (.slice (some ⟨b', 0, none⟩) n n) → b' ≠ b) ∧
      ∀ (w' : World) (l' : List Nat), l'.length = n → (∀ x ∈ l', x < 256) → RowIs w' b l' → Only b w w' → InvAt w0 w' n t B2 ol oo (L.set i l', O) := by
  obtain ⟨bl, bo, h1, h2, h3⟩ := h.mats
  obtain ⟨l, e1, e2, l1, l2⟩ := h.sq1.row hi
  obtain ⟨b, q1, q2, q3, q4⟩ := h1.block e1
  have c1 := h1.cell q1 e1
  unfold rowVal at c1
  rw [l1] at c1
  refine ⟨b, l, e1, e2, l1, l2, c1, q4, fun j b' hj hjn hc' e => ?_, fun w' l' hl hx hr ho => ?_⟩
  · subst e
    obtain ⟨lj, f1, _, m1, _⟩ := h.sq1.row hjn
    obtain ⟨bj, p1, _, _, _⟩ := h1.block f1
    have c2 := h1.cell p1 f1
    rw [hc'] at c2
    unfold rowVal at c2
    injection c2 with c2
    injection c2 with c2 _ _
    injection c2 with c2
    injection c2 with c2
    subst c2
    obtain ⟨a1, b1⟩ := List.getElem?_eq_some_iff.1 q1
    obtain ⟨a2, b2⟩ := List.getElem?_eq_some_iff.1 p1
    exact hj ((List.getElem_inj h1.nodup).1 (b2.trans b1.symm))
  · have hbm := List.mem_of_getElem? q1
    refine ⟨⟨bl, bo, h1.put q1 e1 (by rw [hl, l1]) q3 ho hr, h2.other ho.other (fun e => ?_) (fun hb => ?_), h3⟩, h.sep, h.low, ?_, h.below.trans (ho.below q2), h.sq1.set i ⟨hl, hx⟩, h.sq2, h.small⟩
    · have := h2.low; have := h3 b hbm; omega
    · have := h2.lows b hb; have := h3 b hbm; omega
    · exact (ho.other t (Tab.ne_row h.tab q4)).trans h.tab
theorem InvAt.row2 {i : Nat} (hi : i < n) :
    ∃ b l, O[i]? = some l ∧ O.getD i [] = l ∧ l.length = n ∧ (∀ x ∈ l, x < 256) ∧ w.cell? ⟨oo, i, none⟩ = some (.slice (some ⟨b, 0, none⟩) n n) ∧ RowIs w b l ∧
      (∀ j b' : Nat, j ≠ i → j < n → w.cell? ⟨oo, j, none⟩ = some (.slice (some ⟨b', 0, none⟩) n n) → b' ≠ b) ∧
      ∀ (w' : World) (l' : List Nat), l'.length = n → (∀ x ∈ l', x < 256) → RowIs w' b l' → Only b w w' → InvAt w0 w' n t B2 ol oo (L, O.set i l') := by
  obtain ⟨bl, bo, h1, h2, h3⟩ := h.mats
  obtain ⟨l, e1, e2, l1, l2⟩ := h.sq2.row hi
  obtain ⟨b, q1, q2, q3, q4⟩ := h2.block e1
  have c1 := h2.cell q1 e1
  unfold rowVal at c1
  rw [l1] at c1
  refine ⟨b, l, e1, e2, l1, l2, c1, q4, fun j b' hj hjn hc' e => ?_, fun w' l' hl hx hr ho => ?_⟩
  · subst e
    obtain ⟨lj, f1, _, m1, _⟩ := h.sq2.row hjn
    obtain ⟨bj, p1, _, _, _⟩ := h2.block f1
    have c2 := h2.cell p1 f1
    rw [hc'] at c2
    unfold rowVal at c2
    injection c2 with c2
    injection c2 with c2 _ _
    injection c2 with c2
    injection c2 with c2
    subst c2
    obtain ⟨a1, b1⟩ := List.getElem?_eq_some_iff.1 q1
    obtain ⟨a2, b2⟩ := List.getElem?_eq_some_iff.1 p1
    exact hj ((List.getElem_inj h2.nodup).1 (b2.trans b1.symm))
  · have hbm := List.mem_of_getElem? q1
    refine ⟨⟨bl, bo, h1.other ho.other (fun e => ?_) (fun hb => ?_), h2.put q1 e1 (by rw [hl, l1]) q3 ho hr, h3⟩, h.sep, h.low, ?_, h.below.trans (ho.below (Nat.le_trans h.low q2)), h.sq1, h.sq2.set i ⟨hl, hx⟩, h.small⟩
    · have := h.sep; omega
    · have := h3 b hb; omega
    · exact (ho.other t (Tab.ne_row h.tab q4)).trans h.tab
/-- The left one, read. -/
theorem InvAt.reads1 : ReadsM w (some ⟨ol, 0, none⟩) L := by
  obtain ⟨bl, bo, h1, h2, h3⟩ := h.mats
  obtain ⟨A, c, e, hl, hr⟩ := Kd.R_reads (Kd.S_R h1.kdS)
  injection e with e1 e2 e3
  subst e1
  unfold ReadsM
  rw [mints_len] at hr
  exact hr
end
theorem mints_el (L : List (List Nat)) (i c : Nat) : ((mints L).getD i []).getD c 0 = ((el L i c : Nat) : Int) := by
  have h1 : (mints L).getD i [] = ints (L.getD i []) := by
    unfold mints
    rw [List.getD_eq_getElem?_getD, List.getElem?_map, List.getD_eq_getElem?_getD (l := L)]
    cases L[i]? <;> rfl
  rw [h1]
  unfold Mat.el ints
  generalize L.getD i [] = l
  rw [List.getD_eq_getElem?_getD, List.getElem?_map, List.getD_eq_getElem?_getD]
  cases l[c]? <;> rfl
theorem piv_nat (L : List (List Nat)) (c : Nat) : ∀ d i, piv (mints L) c d i = match pivN L c d i with | none => -1 | some p => (p : Int)
  | 0, i => rfl
  | d + 1, i => by
    unfold piv pivN
    rw [mints_el]
    by_cases h : el L i c = 0
    · rw [if_pos (by omega), if_pos h]; exact piv_nat L c d (i + 1)
    · rw [if_neg (by omega), if_neg h]
theorem pivN_lt {L : List (List Nat)} {c : Nat} : ∀ {d i p : Nat}, pivN L c d i = some p → i ≤ p ∧ p < i + d ∧ el L p c ≠ 0
  | 0, i, p, h => by cases h
  | d + 1, i, p, h => by
    unfold pivN at h
    by_cases h0 : el L i c = 0
    · rw [if_pos h0] at h
      obtain ⟨h1, h2, h3⟩ := pivN_lt h
      exact ⟨by omega, by omega, h3⟩
    · rw [if_neg h0] at h
      injection h with h
      subst h
      exact ⟨by omega, by omega, h0⟩
theorem InvAt.pivot {w0 w : World} {n t B2 ol oo : Nat} {S : List (List Nat) × List (List Nat)} (h : InvAt w0 w n t B2 ol oo S) {c : Nat} (hc : c < n) :
    Calls Try.prog 67 #[.slice (some ⟨ol, 0, none⟩) n n, .int .i64 (c : Int)] w fun e w' => e = .returned (.int .i64 (match pivN S.1 c (S.1.length - c) c with | none => -1 | some p => (p : Int))) ∧ ∃ m, w' = w.drewN m := by
  obtain ⟨L, O⟩ := S
  have hr := h.reads1
  have hl : L.length = n := h.sq1.1
  have hs := h.small
  have h1 := pivot_f (mints L) c (by rw [mints_len]; omega) (fun r hr => by
    obtain ⟨l, hl', rfl⟩ := List.mem_map.1 hr
    rw [ints_len]
    have := (h.sq1.2 l hl').1
    omega) (by rw [mints_len]; omega) (show 80 ≤ 80 by omega)
  rw [piv_nat, mints_len] at h1
  have h2 := mat_pivot.calls 80 (some ⟨ol, 0, none⟩) n (mints L) (c : Int) _ w (by rw [mints_len]; exact hr) (by rw [mints_len]; omega) h1
  rw [mints_len, hl] at h2
  rw [show (L, O).1 = L from rfl, hl]
  exact h2.mono fun e w' ⟨he, hw⟩ => ⟨he, hw.out⟩
theorem dq_lt (a b : Nat) : (dq a b).1 < 256 := by
  unfold dq
  split
  · decide
  · exact gd_lt _ _
/-- times, as the inversion calls it: the row lies in a block of its own. -/
theorem times_at {w : World} {t b n : Nat} {l : List Nat} {m : Nat} (hT : Tab w t) (hr : RowIs w b l) (hl : l.length = n) (hx : ∀ x ∈ l, x < 256) (hm : m < 256) (hn : n ≤ 64) (k : Nat) :
    Calls Try.prog 68 #[.pointer (some ⟨t, 0, none⟩), .slice (some ⟨b, 0, none⟩) n n, .int .u8 (m : Int)] (w.drewN k) fun e w' => e = .returned (.tuple #[]) ∧ RowIs w' b (l.map (gm · m)) ∧ Only b w w' := by
  have := times_calls (w.drewN k) t b l m hT hr hx hm (by omega)
  rw [hl] at this
  exact this.mono fun e w' ⟨h1, h2, h3⟩ => ⟨h1, h2, ⟨h3.os, h3.tape, h3.output, h3.size, h3.other⟩⟩
theorem map_lt (l : List Nat) (m : Nat) : ∀ x ∈ l.map (gm · m), x < 256 := by
  intro x hx
  obtain ⟨y, _, rfl⟩ := List.mem_map.1 hx
  exact gm_lt _ _
/-- add, as the inversion calls it: both rows lie in blocks of their own. -/
theorem add_at {w : World} {t b b' n : Nat} {l l' : List Nat} {m : Nat} (hT : Tab w t) (hr : RowIs w b l) (hr' : RowIs w b' l') (hne : b' ≠ b) (hl : l.length = n) (hl' : l'.length = n) (hx : ∀ x ∈ l, x < 256) (hx' : ∀ x ∈ l', x < 256) (hm : m < 256) (hn : n ≤ 64) (k : Nat) :
    Calls Try.prog 69 #[.pointer (some ⟨t, 0, none⟩), .slice (some ⟨b, 0, none⟩) n n, .slice (some ⟨b', 0, none⟩) n n, .int .u8 (m : Int)] (w.drewN k) fun e w' => e = .returned (.tuple #[]) ∧ RowIs w' b (addRow l m l') ∧ Only b w w' := by
  have := add_calls' (w.drewN k) t b l l' m ⟨b', 0, none⟩ n hT hr hne (fun i x hi => by
    have : (⟨b', 0, none⟩ : Addr).add i = ⟨b', i, none⟩ := by unfold Addr.add; split <;> simp_all
    rw [this]
    exact hr'.cell hi) (by omega) hx hx' hm (by omega)
  rw [hl, hl'] at this
  exact this.mono fun e w' ⟨h1, h2, h3⟩ => ⟨h1, h2, ⟨h3.os, h3.tape, h3.output, h3.size, h3.other⟩⟩
end Go.Proofs.Ythblmkailhdhlaa.Mat
/- Walks over package mat: Inv. -/
namespace Go.Proofs.Ythblmkailhdhlaa.Mat
set_option linter.unusedVariables false
open Go.RowKit Go.Proofs.Ythblmkailhdhlaa.F Go.Proofs.Ythblmkailhdhlaa.Gf Go.Proofs.Ythblmkailhdhlaa.P Go.Proofs.YthblmkailhdhlaaW.PrintWords
set_option maxRecDepth 100000 in
set_option maxHeartbeats 2000000 in
theorem inv_bad (w : World) (A : Option Addr) (ca : Nat) (a : List (List Nat)) (ha : ReadsM w A a) (hca : a.length ≤ ca)
    (h : ¬ (mayN a ∧ (a.getD 0 []).length = a.length)) :
    Calls Try.prog 45 #[.slice A a.length ca] w fun e w' => e = .returned (.tuple #[.slice none 0 0, .int .i64 1]) ∧ ∃ n, w' = w.drewN n := by
  by_cases h1 : mayN a
  · have h3 : ¬ (a.getD 0 []).length = a.length := fun e => h ⟨h1, e⟩
    have hma := may_calls w A ca a ha hca
    rw [decide_eq_true ((mayN_iff a).2 h1)] at hma
    have ha0 : a[0]? = some (a.getD 0 []) := by
      have := h1.1
      rw [List.getD_eq_getElem?_getD, List.getElem?_eq_getElem (by omega)]; rfl
    obtain ⟨ad, Ai, ci, rfl, hc0, hl0, _⟩ := ha.row ha0
    have hca0 : w.cell? ad = some (.slice Ai (a.getD 0 []).length ci) := by simpa [Addr.add] using hc0
    have hne : (((a.getD 0 []).length : Int) != (a.length : Int)) = true := bne_iff_ne.2 (by omega)
    have hl1 := h1.1
    have hl2 := h1.2.1
    have hl3 := h1.2.2.2.1
    generalize (a.getD 0 []).length = q at *
    generalize a.length = n at *
    have HMA := Lib.hid hma
    clear hma ha0 hc0 h ha h1 h3
    go_enter Try.func45, Try.ntmps45
    go_wp2_with fail
    refine HMA.out.mono ?_
    rintro e w1 ⟨rfl, n1, rfl⟩
    go_wp2_with fail
    go_ret2
    exact ⟨rfl, _, rfl⟩
  · have hma := may_calls w A ca a ha hca
    rw [decide_eq_false (fun h => h1 ((mayN_iff a).1 h))] at hma
    generalize a.length = n at *
    have HMA := Lib.hid hma
    clear hma h ha h1
    go_enter Try.func45, Try.ntmps45
    go_wp2_with fail
    refine HMA.out.mono ?_
    rintro e w1 ⟨rfl, n1, rfl⟩
    go_wp2_with fail
    go_ret2
    exact ⟨rfl, _, rfl⟩
/-- What Inv answers. -/
def InvPost (w : World) (n : Nat) (G : Option (List (List Nat) × List (List Nat))) (e : Ending) (w' : World) : Prop :=
  Below w.heap.size w w' ∧ match G with
    | none => e = .returned (.tuple #[.slice none 0 0, .int .i64 5])
    | some S => ∃ ob bs, e = .returned (.tuple #[.slice (some ⟨ob, 0, none⟩) n n, .int .i64 0]) ∧ MatIs w' w.heap.size ob bs S.2 ∧ Square n S.2
theorem grid_el {n : Nat} {M : List (List Nat)} (h : Square n M) : grid n n (el M) = M := by
  apply List.ext_getElem?
  intro i
  by_cases hi : i < n
  · obtain ⟨l, h1, h2, h3, h4⟩ := h.row hi
    rw [grid_get _ _ _ hi, h1]
    congr 1
    apply List.ext_getElem?
    intro k
    rw [List.getElem?_map]
    by_cases hk : k < n
    · rw [List.getElem?_range hk]
      unfold Mat.el
      rw [h2]
      simp [List.getElem?_eq_getElem (show k < l.length by omega)]
    · rw [List.getElem?_eq_none (by simp; omega), List.getElem?_eq_none (by omega)]; rfl
  · rw [List.getElem?_eq_none (by rw [grid_len]; omega), List.getElem?_eq_none (by have := h.1; omega)]
theorem Fills.copied {w0 w : World} {n c i : Nat} {g : Nat → Nat → Nat} (h : Fills w0 w n c g i) (hi : i < n) (row : List Nat) (hrow : row = (List.range c).map (g i)) (Z : Array Value) :
    Fills w0 (((w.setCell ⟨w0.heap.size, i, none⟩ (.slice (some ⟨w.heap.size, 0, none⟩) c c)).alloc (.cells Z 5)).setRow w.heap.size (vals row).toArray) n c g (i + 1) := by
  have hs := h.size
  have hz : (w.setCell ⟨w0.heap.size, i, none⟩ (.slice (some ⟨w.heap.size, 0, none⟩) c c)).heap.size = w.heap.size := by simp [World.setCell]
  refine ⟨by rw [size_setRow]; simp [World.setCell]; omega, ?_, fun j hj => ?_, below_setRow ((h.below.setCell (Nat.le_refl _) _).alloc (by rw [hz]; exact h.below.size) _) (by omega) _⟩
  · rw [setRow_other _ _ _ _ (by omega), heap_push_lt (by omega)]
    simp only [World.setCell, Array.getElem?_modify, h.outer, Option.map_some]
    congr 2
    rw [← outers_set _ _ _ _ hi, hs]
    simp
  · by_cases e : j = i
    · subst e
      unfold RowIs
      rw [show w0.heap.size + 1 + j = w.heap.size by omega, setRow_heap _ _ Z _ 5 (0, 0) (heap_push_at (by rw [hz])), hrow]
    · have h1 := h.rows j (by omega)
      unfold RowIs at h1 ⊢
      rw [setRow_other _ _ _ _ (by omega), heap_push_lt (by omega), Below.heap_setCell _ _ _ _ (by show _ ≠ w0.heap.size; omega)]
      exact h1
theorem vals_one (l : List Nat) : ∀ v ∈ vals l, v.oneCell' = true := by
  intro v hv
  obtain ⟨x, _, rfl⟩ := List.mem_map.1 hv
  rfl
theorem info5s : (Try.prog.info? 5).map (·.size) = some 1 := by kernel_rfl
/-- What is read of one row, as the builtin copy asks it. -/
theorem copy_run {w : World} (g n : Nat) (rd : Addr) (cj : Nat) (Z : Array Value) (row : List Nat) (hg : w.heap[g]? = some (.cells Z 5 (0, 0))) (hZ : Z.size = n) (hr : row.length = n)
    (hsrc : ∀ (j x : Nat), row[j]? = some x → w.cell? (rd.add j) = some (.int .u8 (x : Int))) :
    (Builtin.copy_ #[43, 43] 3 #[.slice (some ⟨g, 0, none⟩) n n, .slice (some rd) n cj]).run Try.prog w = .ok (.int .i64 (n : Int)) (w.setRow g (vals row).toArray) := by
  have := run_copy_row (P := Try.prog) w 43 43 3 5 g 0 n n rd n cj Z 5 (vals row) Try.underlying43 info5s hg (by simp [vals, hr]) (fun j v hv => by
    rw [vals_get] at hv
    cases hx : row[j]? with
    | none => rw [hx] at hv; cases hv
    | some x => rw [hx] at hv; injection hv with hv; subst hv; exact hsrc j x hx) (by simp [vals, hr, hZ]) (vals_one row)
  rw [this]
  have e1 : (vals row).length = n := by simp [vals, hr]
  rw [e1, List.take_zero, List.nil_append, Nat.zero_add, List.drop_of_length_le (by simp [hZ]), List.append_nil]
  rfl
set_option maxRecDepth 100000 in
set_option maxHeartbeats 8000000 in
theorem inv_good (w : World) (A : Option Addr) (ca n : Nat) (a : List (List Nat)) (ha : ReadsM w A a) (hca : a.length ≤ ca)
    (h1 : mayN a) (hsq : Square n a) (hn1 : 1 ≤ n) (hn2 : n ≤ 64) :
    Calls Try.prog 45 #[.slice A n ca] w (InvPost w n (gauss n 0 (a, grid n n oneAt))) := by
  have hlen : a.length = n := hsq.1
  have hma := may_calls w A ca a ha hca
  rw [decide_eq_true ((mayN_iff a).2 h1), hlen] at hma
  obtain ⟨l0, e0, _, q0, _⟩ := hsq.row (show 0 < n by omega)
  obtain ⟨ad, Ai, ci, rfl, hc0, hl0, _⟩ := ha.row e0
  have hca0 : w.cell? ad = some (.slice Ai n ci) := by rw [q0] at hc0; simpa [Addr.add] using hc0
  have hne : ((n : Int) != (n : Int)) = false := by simp
  rw [hlen] at hca
  have HMA := Lib.hid hma
  have HR := Lib.hid ha
  have HSQ := Lib.hid hsq
  have hmr := make_rows n (by omega)
  have hmb := make_bytes n (by omega)
  generalize hZ : (vals (List.replicate n 0)).toArray = Z at hmb
  have HZ : Hid (Z.size = n) := by show _ = _; rw [← hZ]; simp [vals]
  have HO : Hid (∀ W, Fills W (W.alloc (.cells (List.replicate n (Value.slice none 0 0)).toArray 43)) n n (el a) 0) := fun W => Fills.start W n n (el a)
  generalize hOO : (List.replicate n (Value.slice none 0 0)).toArray = OO at hmr HO
  have hPost : Hid (∀ (e : Ending) (w' : World), InvPost w n (gauss n 0 (a, grid n n oneAt)) e w' = InvPost w n (gauss n 0 (a, grid n n oneAt)) e w') := fun _ _ => rfl
  clear hma ha hsq h1 hlen e0 q0 hl0 hc0 hZ hOO
  go_enter Try.func45, Try.ntmps45
  go_wp2_with fail
  refine HMA.out.mono ?_
  rintro e w1 ⟨rfl, n1, rfl⟩
  go_wp2_with fail
  refine (new_calls _).mono ?_
  rintro e w1 ⟨rfl, ht, hb1⟩
  have HT : Hid (Tab w1 w.heap.size) := ht
  have HB1 : Hid (Below w.heap.size w w1) := (below_drewN' _ (Below.refl w.heap.size w)).trans hb1
  clear ht hb1 HMA
  have HO1 := Lib.hid (HO.out w1)
  clear HO
  go_wp2_with fail
  generalize hB : w1.heap.size = ol at *
  have HOL := Lib.hid hB
  have hgeO : w.heap.size ≤ ol := by rw [← hB]; exact HB1.out.size
  clear hB
  go_loopw [34] (fun v34 wr => ∃ i : Nat, i ≤ n ∧ v34 = .int .i64 i ∧ Hid (Fills w1 wr n n (el a) i)) (fun v _ => n - (intOf v).toNat)
  case atStart => exact ⟨0, by omega, rfl, HO1⟩
  case round =>
    clear HO1
    obtain ⟨i, hi, rfl, HW⟩ := hrel
    by_cases hlt : i < n
    · obtain ⟨row, r1, r2, r3, _⟩ := HSQ.out.row hlt
      have hBr := HB1.out.trans (HW.out.below.mono (by rw [HOL.out]; exact hgeO))
      obtain ⟨ad', Aj, cj, e1, hac0, hlj, hrd⟩ := HR.out.row r1
      cases e1
      obtain ⟨x0, hx0⟩ : ∃ x0, row[0]? = some x0 := ⟨_, List.getElem?_eq_getElem (by omega)⟩
      obtain ⟨rd, rfl, _⟩ := hrd.cell hx0
      have hac := (hBr.cell (cell_lt hac0)).trans hac0
      rw [r3] at hac hlj
      have hc1 := HW.out.cell hlt
      have hf1 := HW.out.free i
      have hs1 := HW.out.size
      rw [HOL.out] at hc1 hf1 hs1
      have hblt : ol < wr.heap.size := by omega
      have hwz : (wr.setCell ⟨ol, i, none⟩ (.slice (some ⟨wr.heap.size, 0, none⟩) n n)).heap.size = wr.heap.size := by simp [World.setCell]
      have hcp := copy_run (w := (wr.setCell ⟨ol, i, none⟩ (.slice (some ⟨wr.heap.size, 0, none⟩) n n)).alloc (.cells Z 5)) wr.heap.size n rd cj Z row (heap_push_at hwz.symm) HZ.out r3 (fun j x hx => by
        obtain ⟨rd', e3, hz'⟩ := hrd.cell hx
        cases e3
        have h4 := (hBr.cell (cell_lt hz')).trans hz'
        have h5 : (rd.add j).block < w.heap.size := cell_lt hz'
        have h6 : ((wr.setCell ⟨ol, i, none⟩ (.slice (some ⟨wr.heap.size, 0, none⟩) n n)).alloc (.cells Z 5)).heap[(rd.add j).block]? = wr.heap[(rd.add j).block]? := by
          have := hBr.size
          rw [heap_push_lt (by rw [hwz]; omega), Below.heap_setCell _ _ _ _ (by show _ ≠ ol; omega)]
        unfold World.cell? at h4 ⊢
        rw [h6]; exact h4)
      have HN := HW.out.copied hlt row (by
        have hg := grid_get n n (el a) hlt
        rw [grid_el HSQ.out, r1] at hg
        injection hg) Z
      rw [HOL.out] at HN
      have HN' := Lib.hid HN
      clear HN r1 r2 r3 hac0 hrd hx0 hs1 hwz hBr
      go_wp2_with fail
      clear hcp
      go_roundw
      case rel => exact ⟨i + 1, by omega, by go_num, HN'⟩
      case measure => simp [intOf]; omega
    · have HF : Hid (Fills w1 wr n n (el a) n) := by
        have hin : i = n := by omega
        rw [← hin]; rw [← hin] at HW; exact HW
      have hmat := HF.out.mat (by omega) (by omega)
      rw [grid_el HSQ.out, HOL.out] at hmat
      have HM1 := Lib.hid (hmat.lower hgeO)
      have HT1 : Hid (Tab wr w.heap.size) := HT.out.below (HF.out.below.mono (Nat.le_refl _))
      have HB2 : Hid (Below w.heap.size w wr) := HB1.out.trans (HF.out.below.mono (by rw [HOL.out]; exact hgeO))
      have HSZ : Hid (wr.heap.size = ol + 1 + n) := by
        have := HF.out.size
        rw [HOL.out] at this
        exact this
      clear hmat HW HF
      go_wp2_with fail
      refine (one_good n ⟨hn1, hn2⟩ _).mono ?_
      rintro e w2 ⟨rfl, hm2, hb2, hs2⟩
      have hwr : w.heap.size ≤ wr.heap.size := HB2.out.size
      have HI : Hid (InvAt w w2 n w.heap.size wr.heap.size ol wr.heap.size (a, grid n n oneAt)) := by
        have h1 := HM1.out
        have hsz := HSZ.out
        refine ⟨⟨_, _, ⟨h1.len, (hb2.block _ (by omega)).trans h1.outer, fun i b l hb hl => (hb2.block _ ?_).trans (h1.rows i b l hb hl), h1.nodup, h1.low, h1.lows, h1.small, h1.smalls⟩, hm2, fun b hb => ?_⟩, by omega, hwr, HT1.out.below hb2, HB2.out.trans (hb2.mono hwr), HSQ.out, ?_, hn2⟩
        · exact blk_lt (h1.rows i b l hb hl)
        · rw [List.mem_range'_1] at hb; omega
        · refine ⟨grid_len _ _ _, fun l hl => ?_⟩
          obtain ⟨i, _, rfl⟩ := List.mem_map.1 hl
          refine ⟨by simp, fun x hx => ?_⟩
          obtain ⟨k, _, rfl⟩ := List.mem_map.1 hx
          unfold oneAt; split <;> omega
      generalize wr.heap.size = oo at *
      clear hm2 hb2 hs2 HM1 HT1 HB2 HSZ HB1 HT HOL
      generalize hG : gauss n 0 (a, grid n n oneAt) = G at *
      have HG := Lib.hid hG
      clear hG
      go_wp2_with fail
      have HG0 : Hid (gauss (n - 0) 0 (a, grid n n oneAt) = G) := HG
      go_loopw [60] (fun v60 wr => ∃ (c : Nat) (S : List (List Nat) × List (List Nat)), c ≤ n ∧ v60 = .int .i64 c ∧ Hid (InvAt w wr n w.heap.size oo ol oo S) ∧ Hid (gauss (n - c) c S = G)) (fun v _ => n - (intOf v).toNat)
      case atStart => exact ⟨0, _, by omega, rfl, HI, HG0⟩
      case round =>
        clear HI HG HG0
        obtain ⟨c, S, hc, rfl, HI, HG⟩ := hrel
        by_cases hlt2 : c < n
        · have hpv := HI.out.pivot hlt2
          cases hpN : pivN S.1 c (S.1.length - c) c with
          | none =>
            rw [hpN] at hpv
            have HPV := Lib.hid hpv
            have HGN : Hid (G = none) := by
              have := HG.out
              rw [show n - c = (n - c - 1) + 1 by omega] at this
              unfold gauss at this
              rw [hpN] at this
              exact this.symm
            clear hpv hpN
            go_wp2_with fail
            refine HPV.out.mono ?_
            rintro e w3 ⟨rfl, m3, rfl⟩
            go_wp2_with fail
            go_ret2
            refine ⟨(HI.out.drewN _).below, ?_⟩
            rw [HGN.out]
            rfl
          | some p =>
            rw [hpN] at hpv
            obtain ⟨hp1, hp2, hp3⟩ := pivN_lt hpN
            have HPV := Lib.hid hpv
            clear hpv
            have hpn : p < n := by have := HI.out.sq1.1; omega
            have hp0 : (0 : Int) ≤ (p : Int) := by omega
            have HGS : Hid (gauss (n - (c + 1)) (c + 1) (rids c n 0 (lead c p S)) = G) := by
              have := HG.out
              rw [show n - c = (n - (c + 1)) + 1 by omega] at this
              unfold gauss at this
              rw [hpN, HI.out.sq1.1] at this
              exact this
            clear hpN hp2 hp3
            obtain ⟨L, O⟩ := S
            go_wp2_with fail
            refine HPV.out.mono ?_
            rintro e w3 ⟨rfl, m3, rfl⟩
            have HI2 := Lib.hid (HI.out.drewN m3)
            generalize wr.drewN m3 = wp at *
            clear HI HG HPV
            obtain ⟨bc, bp, cc1, cc2, cf, hsw⟩ := HI2.out.swap1 hlt2 hpn
            have HSW := Lib.hid hsw
            have hcf1 := cf c
            have hcf2 := cf p
            clear hsw cf HI2
            obtain ⟨v1, hv1⟩ := cell?_setCell_some (w := wp) (p := ⟨ol, c, none⟩) (x := .slice (some ⟨bp, 0, none⟩) n n) (q := ⟨ol, p, none⟩) (v := .slice (some ⟨bp, 0, none⟩) n n) cc2
            go_wp2_with fail
            go_region
            have HI3 := Lib.hid (show InvAt w ((wp.setCell ⟨ol, c, none⟩ (.slice (some ⟨bp, 0, none⟩) n n)).setCell ⟨ol, p, none⟩ (.slice (some ⟨bc, 0, none⟩) n n)).drew n w.heap.size oo ol oo (swapL L c p, O) from HSW.out.drewN 1)
            generalize ((wp.setCell ⟨ol, c, none⟩ (.slice (some ⟨bp, 0, none⟩) n n)).setCell ⟨ol, p, none⟩ (.slice (some ⟨bc, 0, none⟩) n n)).drew = wq at *
            clear HSW hcf1 hcf2 cc1 cc2 hv1
            obtain ⟨bc2, bp2, cc1, cc2, cf, hsw⟩ := HI3.out.swap2 hlt2 hpn
            have HSW := Lib.hid hsw
            have hcf1 := cf c
            have hcf2 := cf p
            obtain ⟨v1, hv1⟩ := cell?_setCell_some (w := wq) (p := ⟨oo, c, none⟩) (x := .slice (some ⟨bp2, 0, none⟩) n n) (q := ⟨oo, p, none⟩) (v := .slice (some ⟨bp2, 0, none⟩) n n) cc2
            clear hsw cf HI3
            go_wp2_with fail
            go_region
            have HI4 := Lib.hid (show InvAt w ((wq.setCell ⟨oo, c, none⟩ (.slice (some ⟨bp2, 0, none⟩) n n)).setCell ⟨oo, p, none⟩ (.slice (some ⟨bc2, 0, none⟩) n n)).drew n w.heap.size oo ol oo (swapL L c p, swapL O c p) from HSW.out.drewN 1)
            generalize ((wq.setCell ⟨oo, c, none⟩ (.slice (some ⟨bp2, 0, none⟩) n n)).setCell ⟨oo, p, none⟩ (.slice (some ⟨bc2, 0, none⟩) n n)).drew = ws at *
            clear HSW hcf1 hcf2 cc1 cc2 hv1
            obtain ⟨b1, l1, f1, g1, m1, y1, c1, r1, _, N1⟩ := HI4.out.row1 hlt2
            obtain ⟨lx, x, f2, g2, e2, x2⟩ := HI4.out.sq1.el hlt2 hlt2
            rw [f1] at f2
            injection f2 with f2
            subst f2
            have cx := r1.cell g2
            generalize hM : (dq 1 (el (swapL L c p) c c)).1 = m at *
            have HMV : Hid (Value.tuple #[.int .u8 (dq 1 x).1, .int .i64 (dq 1 x).2] = Value.tuple #[.int .u8 (m : Int), .int .i64 (dq 1 x).2]) := by
              show _ = _
              rw [← hM, e2]
            have hml : m < 256 := by rw [← hM]; exact dq_lt _ _
            have HIC : Hid (∀ W, W.heap = ws.heap → Calls Try.prog 27 #[.pointer (some ⟨w.heap.size, 0, none⟩), .int .u8 (x : Int)] W fun e w' => e = .returned (.tuple #[.int .u8 (m : Int), .int .i64 (dq 1 x).2]) ∧ ∃ k, w' = W.drewN k) := fun W hW => turned (inv_n W w.heap.size (by have := HI4.out.tab; unfold Tab at this ⊢; rw [hW]; exact this) x x2) HMV.out
            have HTM := Lib.hid (times_at (n := n) (m := m) HI4.out.tab r1 m1 y1 hml hn2)
            have HNX : Hid (∀ w', RowIs w' b1 (l1.map (gm · m)) → Only b1 ws w' → InvAt w w' n w.heap.size oo ol oo (scale (swapL L c p) c m, swapL O c p)) := fun w' hr ho => by
              have := N1 w' (l1.map (gm · m)) (by simp [m1]) (map_lt _ _) hr ho
              unfold scale
              rw [g1]
              exact this
            have HLD : Hid ((scale (swapL L c p) c m, scale (swapL O c p) c m) = lead c p (L, O)) := by
              show _ = _
              unfold lead
              rw [hM]
            clear f1 g1 m1 y1 r1 N1 g2 e2 hM HMV HI4
            go_wp2_with fail
            refine (HIC.out _ rfl).mono ?_
            rintro e w5 ⟨rfl, k5, rfl⟩
            go_wp2_with fail
            refine (HTM.out _).mono ?_
            rintro e w5 ⟨rfl, hr5, ho5⟩
            have HI5 := Lib.hid (HNX.out _ hr5 ho5)
            clear hr5 ho5 HNX HTM HIC c1 cx x2
            obtain ⟨b1, l1, f1, g1, m1, y1, c1, r1, _, N1⟩ := HI5.out.row2 hlt2
            have HTM := Lib.hid (times_at (n := n) (m := m) HI5.out.tab r1 m1 y1 hml hn2)
            have HNX : Hid (∀ w', RowIs w' b1 (l1.map (gm · m)) → Only b1 w5 w' → InvAt w w' n w.heap.size oo ol oo (lead c p (L, O))) := fun w' hr ho => by
              have := N1 w' (l1.map (gm · m)) (by simp [m1]) (map_lt _ _) hr ho
              rw [← HLD.out]
              unfold scale at this ⊢
              rw [g1]
              exact this
            clear f1 g1 m1 y1 r1 N1 HI5 HLD
            go_wp2_with fail
            refine (show Calls Try.prog 68 _ w5 _ from HTM.out 0).mono ?_
            rintro e w6 ⟨rfl, hr5, ho5⟩
            have HI6 := Lib.hid (HNX.out _ hr5 ho5)
            clear hr5 ho5 HNX HTM c1
            generalize hT0 : rids c n 0 (lead c p (L, O)) = T at *
            have HT0 : Hid (rids c (n - 0) 0 (lead c p (L, O)) = T) := hT0
            clear hT0
            generalize lead c p (L, O) = S0 at *
            go_wp2_with fail
            go_loopw [124] (fun v124 wx => ∃ (i : Nat) (S : List (List Nat) × List (List Nat)), i ≤ n ∧ v124 = .int .i64 i ∧ Hid (InvAt w wx n w.heap.size oo ol oo S) ∧ Hid (rids c (n - i) i S = T)) (fun v _ => n - (intOf v).toNat)
            case atStart => exact ⟨0, S0, by omega, rfl, HI6, HT0⟩
            case round =>
              clear HI6 HT0
              obtain ⟨i, S, hi, rfl, HI, HS⟩ := hrel
              by_cases hlt3 : i < n
              · have HS1 : Hid (rids c (n - (i + 1)) (i + 1) (rid c S i) = T) := by
                  have := HS.out
                  rw [show n - i = (n - (i + 1)) + 1 by omega] at this
                  exact this
                obtain ⟨L1, O1⟩ := S
                obtain ⟨bi, li, f1, g1, m1, y1, c1, r1, d1, N1⟩ := HI.out.row1 hlt3
                obtain ⟨lx, x, f2, g2, e2, x2⟩ := HI.out.sq1.el hlt3 hlt2
                rw [f1] at f2
                injection f2 with f2
                subst f2
                have cx := r1.cell g2
                by_cases hic : i = c
                · have hb1 : ((i : Int) != (c : Int)) = false := bne_eq_false_iff_eq.2 (by omega)
                  have HS2 : Hid (rids c (n - (i + 1)) (i + 1) (L1, O1) = T) := by
                    have := HS1.out
                    unfold rid at this
                    rw [if_neg (fun h => h.1 hic)] at this
                    exact this
                  clear HS HS1 f1 g1 m1 y1 d1 N1 g2 e2 hic
                  go_wp2_with fail
                  go_roundw
                  case rel => exact ⟨i + 1, (L1, O1), by omega, by go_num, HI, HS2⟩
                  case measure => simp [intOf]; omega
                · have hb1 : ((i : Int) != (c : Int)) = true := bne_iff_ne.2 (by omega)
                  by_cases hx0 : x = 0
                  · have hb2 : ((x : Int) != 0) = false := bne_eq_false_iff_eq.2 (by omega)
                    have HS2 : Hid (rids c (n - (i + 1)) (i + 1) (L1, O1) = T) := by
                      have := HS1.out
                      unfold rid at this
                      rw [if_neg (fun h => h.2 (e2.trans hx0))] at this
                      exact this
                    clear HS HS1 f1 g1 m1 y1 d1 N1 g2 e2 hic hx0
                    go_wp2_with fail
                    go_roundw
                    case rel => exact ⟨i + 1, (L1, O1), by omega, by go_num, HI, HS2⟩
                    case measure => simp [intOf]; omega
                  · have hb2 : ((x : Int) != 0) = true := bne_iff_ne.2 (by omega)
                    have HS2 : Hid (rids c (n - (i + 1)) (i + 1) (addTo' L1 i c x, addTo' O1 i c x) = T) := by
                      have := HS1.out
                      unfold rid at this
                      rw [if_pos ⟨hic, by rw [e2]; exact hx0⟩, e2] at this
                      exact this
                    obtain ⟨bc, lc, f3, g3, m3', y3, c3, r3, _, _⟩ := HI.out.row1 hlt2
                    have hnb : bc ≠ bi := d1 c bc (fun e => hic e.symm) hlt2 c3
                    have HAD := Lib.hid (add_at (m := x) HI.out.tab r1 r3 hnb m1 m3' y1 y3 x2 hn2)
                    have HNX : Hid (∀ w', RowIs w' bi (addRow li x lc) → Only bi wr w' → InvAt w w' n w.heap.size oo ol oo (addTo' L1 i c x, O1)) := fun w' hr ho => by
                      have := N1 w' (addRow li x lc) (by rw [addRow_len _ _ _ (by omega), m1]) (addRow_lt y1) hr ho
                      unfold addTo'
                      rw [g1, g3]
                      exact this
                    clear HS HS1 f1 g1 m1 y1 d1 N1 g2 e2 hx0 f3 g3 m3' y3 r3 r1
                    go_wp2_with fail
                    go_region_with (go_at_call 69; refine (show Calls Try.prog 69 _ wr.drew _ from HAD.out 1).mono ?_; rintro e w7 ⟨rfl, hr7, ho7⟩)
                    all_goals
                      have HI7 := Lib.hid (HNX.out _ hr7 ho7)
                      clear hr7 ho7 HNX HAD c1 c3 cx HI
                      obtain ⟨bi2, li2, f1, g1, m1, y1, c1, r1, d1, N1⟩ := HI7.out.row2 hlt3
                      obtain ⟨bc2, lc2, f3, g3, m3', y3, c3, r3, _, _⟩ := HI7.out.row2 hlt2
                      have hnb2 : bc2 ≠ bi2 := d1 c bc2 (fun e => hic e.symm) hlt2 c3
                      have HAD := Lib.hid (add_at (m := x) HI7.out.tab r1 r3 hnb2 m1 m3' y1 y3 x2 hn2)
                      have HNX : Hid (∀ w', RowIs w' bi2 (addRow li2 x lc2) → Only bi2 w7 w' → InvAt w w' n w.heap.size oo ol oo (addTo' L1 i c x, addTo' O1 i c x)) := fun w' hr ho => by
                        have := N1 w' (addRow li2 x lc2) (by rw [addRow_len _ _ _ (by omega), m1]) (addRow_lt y1) hr ho
                        unfold addTo' at this ⊢
                        rw [g1, g3]
                        exact this
                      clear f1 g1 m1 y1 d1 N1 f3 g3 m3' y3 r3 r1 HI7
                      go_wp2_with fail
                      go_region_with (go_at_call 69; refine (show Calls Try.prog 69 _ w7.drew _ from HAD.out 1).mono ?_; rintro e w8 ⟨rfl, hr8, ho8⟩)
                      all_goals
                        have HI8 := Lib.hid (HNX.out _ hr8 ho8)
                        clear hr8 ho8 HNX HAD
                        go_wp2_with fail
                        go_roundw
                        case rel => exact ⟨i + 1, (addTo' L1 i c x, addTo' O1 i c x), by omega, by go_num, HI8, HS2⟩
                        case measure => simp [intOf]; omega
              · have hin : i = n := by omega
                have HG2 : Hid (gauss (n - (c + 1)) (c + 1) S = G) := by
                  have := HS.out
                  rw [hin, Nat.sub_self] at this
                  have h2 : S = T := this
                  rw [h2]
                  exact HGS.out
                clear HS hin HGS
                go_wp2_with fail
                go_roundw
                case rel => exact ⟨c + 1, S, by omega, by go_num, HI, HG2⟩
                case measure => simp [intOf]; omega
        · have HG2 : Hid (some S = G) := by
            have := HG.out
            rw [show n - c = 0 by omega] at this
            exact this
          obtain ⟨bl, bo, q1, q2, q3⟩ := HI.out.mats
          have HM2 := Lib.hid (q2.lower HI.out.low)
          clear q1 q2 q3
          go_wp2_with fail
          go_ret2
          refine ⟨HI.out.below, ?_⟩
          rw [← HG2.out]
          exact ⟨oo, bo, rfl, HM2.out, HI.out.sq2⟩
end Go.Proofs.Ythblmkailhdhlaa.Mat
/- The contracts of mat.One, Cauchy, Mul and Inv, in the form in which the print's texts ask them. -/
namespace Go.Proofs.Ythblmkailhdhlaa.Given
set_option linter.unusedVariables false
open Go.RowKit Go.Proofs.Ythblmkailhdhlaa.F Go.Proofs.Ythblmkailhdhlaa.Mat Go.Proofs.YthblmkailhdhlaaW.PrintWords
open Go.Proofs.Ythblmkailhdhlaa.Gf (below_drewN')
/-- All numbers are bytes. -/
def okM (l : List (List Int)) : Prop := ∀ r ∈ l, ∀ x ∈ r, 0 ≤ x ∧ x < 256
instance (l : List (List Int)) : Decidable (okM l) := by unfold okM; exact inferInstance
def nats (l : List Int) : List Nat := l.map Int.toNat
def mnats (l : List (List Int)) : List (List Nat) := l.map nats
theorem ints_nats {r : List Int} (h : ∀ x ∈ r, 0 ≤ x ∧ x < 256) : ints (nats r) = r := by
  unfold ints nats
  rw [List.map_map]
  conv => rhs; rw [← List.map_id r]
  apply List.map_congr_left
  intro x hx
  have := h x hx
  show ((x.toNat : Nat) : Int) = x
  omega
theorem mints_mnats {l : List (List Int)} (h : okM l) : mints (mnats l) = l := by
  unfold mints mnats
  rw [List.map_map]
  conv => rhs; rw [← List.map_id l]
  apply List.map_congr_left
  intro r hr
  exact ints_nats (h r hr)
theorem mnats_bytes {l : List (List Int)} (h : okM l) : Bytes (mnats l) := by
  intro r hr x hx
  obtain ⟨r', hr', rfl⟩ := List.mem_map.1 hr
  obtain ⟨y, hy, rfl⟩ := List.mem_map.1 hx
  have := h r' hr' y hy
  omega
theorem mnats_len (l : List (List Int)) : (mnats l).length = l.length := by simp [mnats]
theorem mnats_head (l : List (List Int)) : ((mnats l).getD 0 []).length = (l.getD 0 []).length := by
  cases l with
  | nil => rfl
  | cons r l => show (nats r).length = r.length; simp [nats]
def mat_One.f (n : Int) : Option (List (List Int) × Int) := some (if 1 ≤ n ∧ n ≤ 64 then (mints (grid n.toNat n.toNat oneAt), 0) else ([], 1))
theorem mat_One.calls (a0 : Int) (r1 : List (List Int)) (r2 : Int) (w : World) (h : mat_One.f a0 = some (r1, r2)) :
    Calls Try.prog 37 #[.int .i64 a0] w fun e w' => ∃ v0_ : Value, e = .returned (.tuple #[v0_, .int .i64 r2]) ∧ Kd.S (Kd.slice 5 (Kd.int .u8)) 43 w' w.heap.size (fun _ => True) v0_ r1 ∧ Below w.heap.size w w' := by
  unfold mat_One.f at h
  by_cases hn : 1 ≤ a0 ∧ a0 ≤ 64
  · rw [if_pos hn] at h
    injection h with h
    injection h with h1 h2
    subst h1; subst h2
    obtain ⟨n, rfl⟩ := Int.eq_ofNat_of_zero_le (show 0 ≤ a0 by omega)
    rw [Int.toNat_natCast]
    refine (one_good n (by omega) w).mono fun e w' ⟨he, hm, hb, _⟩ => ⟨_, he, ?_, hb⟩
    have := hm.kdS
    rw [grid_len] at this
    exact this
  · rw [if_neg hn] at h
    injection h with h
    injection h with h1 h2
    subst h1; subst h2
    exact (one_bad a0 hn w).mono fun e w' ⟨he, hw⟩ => ⟨_, he, Kd.S_nil _ _ _ _ _, hw ▸ Below.refl _ _⟩
def mat_Cauchy.f (n c : Int) : Option (List (List Int) × Int) := some (if 1 ≤ n ∧ n ≤ 64 ∧ 1 ≤ c ∧ c ≤ 64 then (mints (grid n.toNat c.toNat (cauAt c.toNat)), 0) else ([], 1))
theorem mat_Cauchy.calls (a0 a1 : Int) (r1 : List (List Int)) (r2 : Int) (w : World) (h : mat_Cauchy.f a0 a1 = some (r1, r2)) :
    Calls Try.prog 39 #[.int .i64 a0, .int .i64 a1] w fun e w' => ∃ v0_ : Value, e = .returned (.tuple #[v0_, .int .i64 r2]) ∧ Kd.S (Kd.slice 5 (Kd.int .u8)) 43 w' w.heap.size (fun _ => True) v0_ r1 ∧ Below w.heap.size w w' := by
  unfold mat_Cauchy.f at h
  by_cases hn : 1 ≤ a0 ∧ a0 ≤ 64 ∧ 1 ≤ a1 ∧ a1 ≤ 64
  · rw [if_pos hn] at h
    injection h with h
    injection h with h1 h2
    subst h1; subst h2
    obtain ⟨n, rfl⟩ := Int.eq_ofNat_of_zero_le (show 0 ≤ a0 by omega)
    obtain ⟨c, rfl⟩ := Int.eq_ofNat_of_zero_le (show 0 ≤ a1 by omega)
    rw [Int.toNat_natCast, Int.toNat_natCast]
    refine (cauchy_good n c (by omega) w).mono fun e w' ⟨B, bs, he, hm, hb⟩ => ⟨_, he, ?_, hb⟩
    have := hm.kdS
    rw [grid_len] at this
    exact this
  · rw [if_neg hn] at h
    injection h with h
    injection h with h1 h2
    subst h1; subst h2
    exact (cauchy_bad a0 a1 hn w).mono fun e w' ⟨he, hw⟩ => ⟨_, he, Kd.S_nil _ _ _ _ _, hw⟩
def mat_Mul.f (a b : List (List Int)) : Option (List (List Int) × Int) :=
  if okM a ∧ okM b then some (if mayP a ∧ mayP b ∧ (a.getD 0 []).length = b.length then (mints (mulM (mnats a) (mnats b)), 0) else ([], 1)) else none
theorem mat_Mul.calls (A0 : Option Addr) (c0 : Nat) (l0 : List (List Int)) (A1 : Option Addr) (c1 : Nat) (l1 : List (List Int)) (r1 : List (List Int)) (r2 : Int) (w : World) (hr0 : Kd.C (Kd.slice 5 (Kd.int .u8)) w A0 l0.length l0) (hc0 : l0.length ≤ c0) (hr1 : Kd.C (Kd.slice 5 (Kd.int .u8)) w A1 l1.length l1) (hc1 : l1.length ≤ c1) (h : mat_Mul.f l0 l1 = some (r1, r2)) :
    Calls Try.prog 48 #[.slice A0 l0.length c0, .slice A1 l1.length c1] w fun e w' => ∃ v0_ : Value, e = .returned (.tuple #[v0_, .int .i64 r2]) ∧ Kd.S (Kd.slice 5 (Kd.int .u8)) 43 w' w.heap.size (fun _ => True) v0_ r1 ∧ Below w.heap.size w w' := by
  unfold mat_Mul.f at h
  by_cases hk : okM l0 ∧ okM l1
  · rw [if_pos hk] at h
    injection h with h
    have ha : ReadsM w A0 (mnats l0) := by unfold ReadsM; rw [mnats_len, mints_mnats hk.1]; exact hr0
    have hb : ReadsM w A1 (mnats l1) := by unfold ReadsM; rw [mnats_len, mints_mnats hk.2]; exact hr1
    have e1 : mayN (mnats l0) ↔ mayP l0 := by rw [← mayN_iff, mints_mnats hk.1]
    have e2 : mayN (mnats l1) ↔ mayP l1 := by rw [← mayN_iff, mints_mnats hk.2]
    by_cases hm : mayP l0 ∧ mayP l1 ∧ (l0.getD 0 []).length = l1.length
    · rw [if_pos hm] at h
      injection h with h1 h2
      subst h1; subst h2
      have := mul_good w A0 A1 c0 c1 (mnats l0) (mnats l1) ha (by rw [mnats_len]; exact hc0) hb (by rw [mnats_len]; exact hc1) (e1.2 hm.1) (e2.2 hm.2.1) (by rw [mnats_head, mnats_len]; exact hm.2.2) (mnats_bytes hk.1) (mnats_bytes hk.2)
      rw [mnats_len, mnats_len] at this
      refine this.mono fun e w' ⟨ob, bs, he, hm', hb'⟩ => ⟨_, he, ?_, hb'⟩
      have := hm'.kdS
      rw [show (mulM (mnats l0) (mnats l1)).length = l0.length by simp [mulM, mnats_len]] at this
      exact this
    · rw [if_neg hm] at h
      injection h with h1 h2
      subst h1; subst h2
      have := mul_bad w A0 A1 c0 c1 (mnats l0) (mnats l1) ha (by rw [mnats_len]; exact hc0) hb (by rw [mnats_len]; exact hc1) (by rw [mnats_head, mnats_len, e1, e2]; exact hm)
      rw [mnats_len, mnats_len] at this
      exact this.mono fun e w' ⟨he, n, hw⟩ => ⟨_, he, Kd.S_nil _ _ _ _ _, by rw [hw]; exact below_drewN' n (Below.refl _ _)⟩
  · rw [if_neg hk] at h; cases h
/-- What Inv answers. -/
def invAns (a : List (List Int)) : List (List Int) × Int :=
  if mayP a ∧ (a.getD 0 []).length = a.length then (match gauss a.length 0 (mnats a, grid a.length a.length oneAt) with | none => ([], 5) | some S => (mints S.2, 0)) else ([], 1)
def mat_Inv.f (a : List (List Int)) : Option (List (List Int) × Int) := if okM a then some (invAns a) else none
theorem mat_Inv.calls (A0 : Option Addr) (c0 : Nat) (l0 : List (List Int)) (r1 : List (List Int)) (r2 : Int) (w : World) (hr0 : Kd.C (Kd.slice 5 (Kd.int .u8)) w A0 l0.length l0) (hc0 : l0.length ≤ c0) (h : mat_Inv.f l0 = some (r1, r2)) :
    Calls Try.prog 45 #[.slice A0 l0.length c0] w fun e w' => ∃ v0_ : Value, e = .returned (.tuple #[v0_, .int .i64 r2]) ∧ Kd.S (Kd.slice 5 (Kd.int .u8)) 43 w' w.heap.size (fun _ => True) v0_ r1 ∧ Below w.heap.size w w' := by
  unfold mat_Inv.f at h
  by_cases hk : okM l0
  · rw [if_pos hk] at h
    injection h with h
    have ha : ReadsM w A0 (mnats l0) := by unfold ReadsM; rw [mnats_len, mints_mnats hk]; exact hr0
    have e1 : mayN (mnats l0) ↔ mayP l0 := by rw [← mayN_iff, mints_mnats hk]
    unfold invAns at h
    by_cases hm : mayP l0 ∧ (l0.getD 0 []).length = l0.length
    · rw [if_pos hm] at h
      have hsq : Square l0.length (mnats l0) := by
        refine ⟨mnats_len _, fun r hr => ⟨?_, mnats_bytes hk r hr⟩⟩
        obtain ⟨r', hr', rfl⟩ := List.mem_map.1 hr
        have := hm.1.2.2.2.2 r' hr'
        show (nats r').length = _
        unfold nats
        rw [List.length_map]
        omega
      have := inv_good w A0 c0 l0.length (mnats l0) ha (by rw [mnats_len]; exact hc0) (e1.2 hm.1) hsq hm.1.1 hm.1.2.1
      refine this.mono fun e w' hp => ?_
      unfold InvPost at hp
      cases hg : gauss l0.length 0 (mnats l0, grid l0.length l0.length oneAt) with
      | none =>
        rw [hg] at h hp
        injection h with h1 h2
        subst h1; subst h2
        exact ⟨_, hp.2, Kd.S_nil _ _ _ _ _, hp.1⟩
      | some S =>
        rw [hg] at h hp
        injection h with h1 h2
        subst h1; subst h2
        obtain ⟨hb, ob, bs, he, hm', hs⟩ := hp
        refine ⟨_, he, ?_, hb⟩
        have := hm'.kdS
        rw [hs.1] at this
        exact this
    · rw [if_neg hm] at h
      injection h with h1 h2
      subst h1; subst h2
      have := inv_bad w A0 c0 (mnats l0) ha (by rw [mnats_len]; exact hc0) (by rw [mnats_head, mnats_len, e1]; exact hm)
      rw [mnats_len] at this
      exact this.mono fun e w' ⟨he, n, hw⟩ => ⟨_, he, Kd.S_nil _ _ _ _ _, by rw [hw]; exact below_drewN' n (Below.refl _ _)⟩
  · rw [if_neg hk] at h; cases h
end Go.Proofs.Ythblmkailhdhlaa.Given
