/- The document's 'solved': the walk. -/
import Derived.Test.YthblmkailhdhlaaSA
import Derived.Test.YthblmkailhdhlaaSZ
namespace Go.Proofs.Ythblmkailhdhlaa.Mat
set_option linter.unusedVariables false
set_option linter.unusedSimpArgs false
open Go.RowKit Go.Proofs.Ythblmkailhdhlaa.F Go.Proofs.Ythblmkailhdhlaa.R Go.Proofs.Ythblmkailhdhlaa.Given Go.Proofs.Ythblmkailhdhlaa.Gf Go.Proofs.YthblmkailhdhlaaW.PrintWords Go.Proofs.YthblmkailhdhlaaW.PrintLast Go.Proofs.YthblmkailhdhlaaW.PrintMore

theorem GM.below {w w1 : World} {B ob n c : Nat} {g : Nat → Nat} {f : Nat → Nat → Nat} (h : GM w B ob n c g f) (hb : Below w.heap.size w w1) : GM w1 B ob n c g f := by
  obtain ⟨oc, o1, o2⟩ := h.outer
  refine ⟨⟨oc, (hb.block _ (blk_lt o1)).trans o1, o2⟩, fun i hi => ?_, h.inj, h.ne, h.low, h.lowo⟩
  obtain ⟨cells, h1, h2⟩ := h.rows i hi
  exact ⟨cells, (hb.block _ (blk_lt h1)).trans h1, h2⟩

set_option maxRecDepth 100000 in
set_option maxHeartbeats 16000000 in
theorem solved_calls (A0 : Option Addr) (c0 : Nat) (rows : List (List Nat)) (A1 : Option Addr) (c1 : Nat) (y : List Nat) (n : Nat) (hn : 1 ≤ n ∧ n ≤ 64) (hr : Rect n n rows) (hy : y.length = n) (hyb : ∀ x ∈ y, x < 256) (w : World) (h0 : ReadsM w A0 rows) (h1 : ReadsB w A1 y) :
    Calls Try.prog 76 #[.slice A0 n c0, .slice A1 n c1] w fun e w' => ∃ v : Value, e = .returned v ∧ (Kd.int .u8).R 5 w' w.heap.size (fun _ => True) v (ints (solvedL n rows y)) ∧ Below w.heap.size w w' := by
  have hF0 : BF (augF rows y n) := BF.aug hr.bytes hyb
  have HF0 := Lib.hid hF0
  have HN := Lib.hid hn
  have HR := Lib.hid hr
  have HY := Lib.hid hy
  unfold ReadsM at h0
  rw [hr.1] at h0
  unfold ReadsB at h1
  rw [hy] at h1
  have H0 := Lib.hid h0
  have H1 := Lib.hid h1
  have hw1 : wrap64 ((n : Int) - 1) = (n : Int) - 1 := w64 (by omega) (by omega)
  clear hF0 hn hr hy hyb h0 h1
  go_enter Try.func76, Try.ntmps76
  go_wp2
  go_loopw [6, 7] (fun v6 v7 wr => ∃ i : Nat, v7 = .int .i64 i ∧ Hid (i ≤ n) ∧ Hid (Kd.S (Kd.slice 5 (Kd.int .u8)) 43 wr w.heap.size (fun _ => True) v6 (mints (grid i (n + 1) (augF rows y n)))) ∧ Hid (Below w.heap.size w wr)) (fun _ v _ => n - (intOf v).toNat)
  case atStart => exact ⟨0, rfl, Nat.zero_le _, Kd.S_nil _ _ _ _ _, Below.refl _ _⟩
  case round =>
    obtain ⟨i, rfl, hi, HS, HB⟩ := hrel
    by_cases hlt : i < n
    · have hil : Hid (i < n) := hlt
      obtain ⟨A6, c6, e6⟩ := Kd.S_slice HS.out
      subst e6
      obtain ⟨l, q1, q2, q3, q4⟩ := HR.out.row hlt
      obtain ⟨adr, Ai, ci, e1, x1, x2, x3⟩ := T.at_L1 H0.out (i : Int) (by omega) (by omega)
      cases e1
      obtain ⟨ady, e2, z1⟩ := Kd.at_int H1.out (i : Int) (by omega) (by omega)
      cases e2
      rw [rd_L1_natT, mints_getD, q2, ints_len, q3] at x1 x2
      rw [rd_L1_natT, mints_getD, q2, ints_len, q3] at x3
      rw [rd_nat, ints_getD, Int.toNat_natCast] at z1
      rw [Int.toNat_natCast] at x1
      have d1 := pw_cell_below HB.out x1
      have d2 := pw_cell_below HB.out z1
      have Z1 := Lib.hid z1
      have X3 := Lib.hid x3
      have Q2 := Lib.hid q2
      have Q3 := Lib.hid q3
      have hrow : Hid (mints (grid (i + 1) (n + 1) (augF rows y n)) = mints (grid i (n + 1) (augF rows y n)) ++ [ints l ++ [((y.getD i 0 : Nat) : Int)]]) := by
        show _ = _
        rw [grid_snoc, aug_row q2 q3, mints_app]
        show _ ++ [ints (l ++ [y.getD i 0])] = _
        unfold ints; rw [List.map_append]; rfl
      have hlen : Hid (((mints (grid i (n + 1) (augF rows y n))).length + 1) * 24 ≤ 140737488355328 ∧ (ints l).length ≤ 64) := by
        refine ⟨by rw [mints_len, grid_len]; have := HN.out; omega, by rw [ints_len, q3]; exact HN.out.2⟩
      obtain ⟨yi, hyi⟩ : ∃ yi, yi = y.getD i 0 := ⟨_, rfl⟩
      rw [← hyi] at d2 hrow
      have HYI := Lib.hid hyi
      clear x1 z1 x3 q1 q2 q3 q4 x2 hyi
      go_wp2_with (at_builtin; refine Kd.R_append_rows (Kd.int .u8) (w0 := wr) wr.heap.size rfl (.const (.slice none 0 0)) (.tmp 31) 43 5 (.int .u8 0) 1 rfl Try.underlying43 info5c rfl (by decide) (by omega) (.slice none 0 0) ([] : List Int) (ints l) Ai n ci (fun _ => True) (fun _ => False) rfl rfl ?aO ?aR (fun _ _ h => h) (fun _ h => h.elim) (fun _ _ => trivial) ?aB ?aS ?aL ?_)
      case aO => exact Kd.R_nil _ _ _ _ _
      case aR => exact Kd.C_below X3.out HB.out
      case aB => exact Below.refl _ _
      case aS => exact Nat.le_refl _
      case aL => have := HN.out; rw [List.length_nil]; omega
      intro v8 w2 ho hb hg hat
      have HO8 := Lib.hid (show (Kd.int .u8).R 5 w2 wr.heap.size (fun _ => True) v8 (ints l) from ho)
      have HB2 := Lib.hid hb
      clear ho hb hg hat
      have d2' := Lib.hid (pw_cell_below (HB.out.trans (HB2.out.mono HB.out.size)) Z1.out)
      rw [← HYI.out] at d2'
      have d3 := d2'.out
      go_wp2_with (at_builtin; refine Kd.R_append (Kd.int .u8) (w0 := wr) wr.heap.size rfl (.tmp 34) (.tmp 39) 43 5 (.int .u8 0) 1 rfl Try.underlying43 info5c rfl (by decide) (by omega) v8 (ints l) ((yi : Nat) : Int) [.int .u8 (yi : Nat)] (fun _ => True) (fun _ => False) rfl rfl rfl (fun _ h => h.elim) (fun _ _ => trivial) ?aO ?aB ?aS ?aL ?_)
      case aO => exact HO8.out
      case aB => exact HB2.out
      case aS => exact HB2.out.size
      case aL => have := hlen.out.2; omega
      intro v40 w3 ho hb hg hat
      obtain ⟨rw_, hrw⟩ : ∃ rw_, rw_ = ints l ++ [((yi : Nat) : Int)] := ⟨_, rfl⟩
      rw [← hrw] at ho
      have HRW := Lib.hid hrw
      clear hrw
      obtain ⟨A40, c40, e40⟩ := Kd.R_slice ho
      subst e40
      have HO40 := Lib.hid ho
      have HB3 := Lib.hid hb
      clear ho hb hg hat
      go_wp2_with (at_builtin; refine Kd.S_append (Kd.slice 5 (Kd.int .u8)) (w0 := w) w.heap.size rfl (.tmp 33) (.tmp 41) 42 43 (.slice none 0 0) 24 rfl Try.underlying42 T.info43 rfl (by decide) (by omega) (.slice A6 (mints (grid i (n + 1) (augF rows y n))).length c6) (mints (grid i (n + 1) (augF rows y n))) rw_ [.slice A40 rw_.length c40] (fun _ => True) (fun k => wr.heap.size ≤ k) rfl rfl ?aP ?aI (fun _ _ => trivial) ?aO ?aB ?aS ?aL ?_)
      case aP => exact ⟨_, rfl, Kd.R_lower (Kd.R_mono (Kd.R_bound HO40.out) (fun k hk => hk.2.1)) HB.out.size⟩
      case aI => exact fun k hk => ⟨trivial, fun e => by have := Kd.S_lt HS.out k e.symm; omega⟩
      case aO => exact Kd.S_mono (Kd.S_old HS.out HB3.out) (fun k hk => ⟨trivial, by omega⟩)
      case aB => exact HB.out.trans (HB3.out.mono HB.out.size)
      case aS => exact Nat.le_trans HB.out.size HB3.out.size
      case aL => exact hlen.out.1
      intro v6 w4 ho hb hg hat
      rw [HRW.out, ← hrow.out] at ho
      have HS4 := Lib.hid ho
      have HB4 := Lib.hid hb
      clear ho hb hg hat
      go_wp2_with fail
      go_roundw
      case rel => exact ⟨i + 1, next_s (by have := hil.out; have := HN.out; omega), hil.out, HS4, HB4⟩
      case measure => exact meas_s (by have := HN.out; omega) hil.out
    · have ei : i = n := by have := hi.out; omega
      have hs := HS.out
      rw [ei] at hs
      obtain ⟨ob, cap, e6, _, _, _⟩ := Kd.S_form hs (by rw [mints_len, grid_len]; exact HN.out.1)
      have HE6 := Lib.hid e6
      subst e6
      rw [mints_len, grid_len] at hs
      have hrc : Rect n (n + 1) (grid n (n + 1) (augF rows y n)) := grid_rect fun i j _ _ => HF0.out i j
      obtain ⟨g0, hgm⟩ := GM.of_S hrc (by omega) hs
      have HG := Lib.hid (hgm.congr (f' := augF rows y n) (fun i j hi hj => by rw [el_grid hi hj]))
      clear hs hrc hgm HS HE6
      rw [mints_len, grid_len]
      rw [ei]
      clear ei hlt hi
      go_wp2
      go_loopw [9] (fun v9 wr => ∃ (c : Nat) (g : Nat → Nat), v9 = .int .i64 c ∧ Hid (c ≤ n) ∧ Hid (GM wr w.heap.size ob n (n + 1) g (stepN n c (augF rows y n))) ∧ Hid (Below w.heap.size w wr)) (fun v _ => n - (intOf v).toNat)
      case atStart => exact ⟨0, g0, rfl, Nat.zero_le _, HG, HB⟩
      case round =>
        obtain ⟨c, g, rfl, hc, HG, HB⟩ := hrel
        by_cases hcn : c < n
        · have hcl : Hid (c < n) := hcn
          have HBF : Hid (BF (stepN n c (augF rows y n))) := HF0.out.stepN n c
          obtain ⟨f, hf⟩ : ∃ f, f = stepN n c (augF rows y n) := ⟨_, rfl⟩
          rw [← hf] at HG HBF
          have HFE := Lib.hid hf
          clear hf
          go_wp2
          go_loopw [10] (fun v10 wr => ∃ p : Nat, v10 = .int .i64 p ∧ Hid (p < n) ∧ Hid (pv f c (n - 1 - p) p = pv f c (n - 1 - c) c) ∧ Hid (GM wr w.heap.size ob n (n + 1) g f) ∧ Hid (Below w.heap.size w wr)) (fun v _ => n - (intOf v).toNat)
          case atStart => exact ⟨c, rfl, hcl.out, rfl, HG, HB⟩
          case round =>
            obtain ⟨p, rfl, hp, HP, HG, HB⟩ := hrel
            have done : (¬ ((p : Int) < (n : Int) - 1) ∨ f p c ≠ 0) → p = pv f c (n - 1 - c) c := fun h => by
              have hpp := HP.out
              rcases Nat.eq_zero_or_pos (n - 1 - p) with z | z
              · rw [z] at hpp; exact hpp
              · obtain ⟨d, hd⟩ : ∃ d, n - 1 - p = d + 1 := ⟨n - 1 - p - 1, by omega⟩
                rw [hd, pv] at hpp
                rcases h with h | h
                · have := hp.out; omega
                · rw [if_neg h] at hpp; exact hpp
            have DONE := Lib.hid done
            clear done
            by_cases hq : (p : Int) < (n : Int) - 1
            · obtain ⟨cap2, b1⟩ := HG.out.cellO hp.out
              have b2 := HG.out.cellR (j := c) hp.out (by have := hcl.out; omega)
              by_cases hz : f p c = 0
              · rw [hz] at b2
                have HZ := Lib.hid hz
                have HQ := Lib.hid hq
                clear hz
                have p1 : ((p : Int) < (n : Int)) = True := eq_true (by omega)
                have p2 : ((c : Int) < ((n + 1 : Nat) : Int)) = True := eq_true (by have := hcl.out; omega)
                go_wp2_with fail
                go_roundw
                case rel =>
                  refine ⟨p + 1, next_s (by have := hp.out; have := HN.out; omega), (by have := HQ.out; show p + 1 < n; omega), ?_, HG, HB⟩
                  show pv f c (n - 1 - (p + 1)) (p + 1) = _
                  rw [← HP.out]
                  have hd : n - 1 - p = (n - 1 - (p + 1)) + 1 := by have := HQ.out; omega
                  rw [hd, pv, if_pos HZ.out]
                case measure => exact meas_s (by have := HN.out; omega) hp.out
              · have hz' : (((f p c : Nat) : Int) == 0) = false := beq_eq_false_iff_ne.2 (by omega)
                have hpe := DONE.out (.inr hz)
                have HPE := Lib.hid hpe
                have hz2 : ¬ ((f p c : Nat) : Int) = 0 := by omega
                have p1 : ((p : Int) < (n : Int)) = True := eq_true (by omega)
                have p2 : ((c : Int) < ((n + 1 : Nat) : Int)) = True := eq_true (by have := hcl.out; omega)
                clear hpe hz
                clear DONE HP
                have hPn : pv f c (n - 1 - c) c < n := by rw [← HPE.out]; exact hp.out
                have hpP := HPE.out
                rw [← hpP] at hPn
                obtain ⟨cap1, k1⟩ := HG.out.cellO hcl.out
                have k2 := b1
                have z1 := HG.out.frzO c
                have z2 := HG.out.frzO p
                have hsw := HG.out.swap hcl.out hp.out k1 k2
                have HSW := Lib.hid hsw
                have HBS := Lib.hid ((HB.out.setCell (p := ⟨ob, c, none⟩) HG.out.lowo (.slice (some ⟨g p, 0, none⟩) (n + 1) cap2)).setCell (p := ⟨ob, p, none⟩) HG.out.lowo (.slice (some ⟨g c, 0, none⟩) (n + 1) cap1))
                obtain ⟨v1, hv1⟩ := cell?_setCell_some (w := wr) (p := ⟨ob, c, none⟩) (x := .slice (some ⟨g p, 0, none⟩) (n + 1) cap2) (q := ⟨ob, p, none⟩) (v := .slice (some ⟨g p, 0, none⟩) (n + 1) cap2) k2
                have p3 : ((c : Int) < (n : Int)) = True := eq_true (by have := hcl.out; omega)
                have p4 : ((p : Int) < (n : Int)) = True := eq_true (by have := hp.out; omega)
                clear hsw hpP hPn HG HB
                go_wp2_with fail
                generalize ((wr.setCell ⟨ob, c, none⟩ (.slice (some ⟨g p, 0, none⟩) (n + 1) cap2)).setCell ⟨ob, p, none⟩ (.slice (some ⟨g c, 0, none⟩) (n + 1) cap1)) = ws at *
                clear hv1 z1 z2 k1 k2 p3 p4
                try rw [hw1]
                clear hw1
                have HGS := HSW
                have HBF2 : Hid (BF (swF c p f)) := HBF.out.sw c p
                have HFE2 : Hid (stepN n (c + 1) (augF rows y n) = elimN c n (swF c p f)) := by
                  show elimN c n (swF c (pv (stepN n c (augF rows y n)) c (n - 1 - c) c) (stepN n c (augF rows y n))) = _
                  rw [← HFE.out, ← HPE.out]
                generalize (fun r => if r = p then g c else if r = c then g p else g r) = gs at *
                generalize swF c p f = f1 at *
                clear HSW HPE HFE HBF
                go_wp2
                go_loopw [12] (fun v12 wr => ∃ i : Nat, v12 = .int .i64 i ∧ Hid (i ≤ n) ∧ Hid (GM wr w.heap.size ob n (n + 1) gs (elimN c i f1)) ∧ Hid (Below w.heap.size w wr)) (fun v _ => n - (intOf v).toNat)
                case atStart => exact ⟨0, rfl, Nat.zero_le _, HGS, HBS⟩
                case round =>
                  obtain ⟨i, rfl, hi, HG, HB⟩ := hrel
                  by_cases hin : i < n
                  · have hil : Hid (i < n) := hin
                    have HBE : Hid (BF (elimN c i f1)) := HBF2.out.elimN c i
                    have HNX : Hid (elimN c (i + 1) f1 = elimI c i (elimN c i f1)) := rfl
                    generalize elimN c i f1 = fi at *
                    by_cases hic : i = c
                    · have HX : Hid (elimN c (i + 1) f1 = fi) := by
                        show _ = fi
                        rw [HNX.out]; unfold elimI; rw [if_pos (.inl hic)]
                      have hic2 : ((i : Int) == (c : Int)) = true := by rw [hic]; simp
                      clear hic
                      go_wp2_with fail
                      go_roundw
                      case rel => exact ⟨i + 1, next_s (by have := hil.out; have := HN.out; omega), hil.out, by rw [HX.out]; exact HG, HB⟩
                      case measure => exact meas_s (by have := HN.out; omega) hil.out
                    · have hic2 : ((i : Int) == (c : Int)) = false := beq_eq_false_iff_ne.2 (by omega)
                      have hic3 : ¬ (i : Int) = (c : Int) := by omega
                      obtain ⟨capc, b1⟩ := HG.out.cellO hcl.out
                      have b2 := HG.out.cellR (j := c) hcl.out (by have := hcl.out; omega)
                      have p3 : ((c : Int) < (n : Int)) = True := eq_true (by have := hcl.out; omega)
                      have p5 : ((c : Int) < ((n + 1 : Nat) : Int)) = True := eq_true (by have := hcl.out; omega)
                      have HIC := Lib.hid hic
                      clear hic
                      by_cases hcc : fi c c = 0
                      · have HX : Hid (elimN c (i + 1) f1 = fi) := by
                          show _ = fi
                          rw [HNX.out]; unfold elimI; rw [if_pos (.inr hcc)]
                        rw [hcc] at b2
                        clear hcc
                        go_wp2_with fail
                        go_roundw
                        case rel => exact ⟨i + 1, next_s (by have := hil.out; have := HN.out; omega), hil.out, by rw [HX.out]; exact HG, HB⟩
                        case measure => exact meas_s (by have := HN.out; omega) hil.out
                      · have hcc2 : (((fi c c : Nat) : Int) == 0) = false := beq_eq_false_iff_ne.2 (by omega)
                        have hcc3 : ¬ ((fi c c : Nat) : Int) = 0 := by omega
                        have HCC := Lib.hid hcc
                        clear hcc
                        obtain ⟨capi, b3⟩ := HG.out.cellO hil.out
                        have b4 := HG.out.cellR (j := c) hil.out (by have := hcl.out; omega)
                        have p6 : ((i : Int) < (n : Int)) = True := eq_true (by have := hil.out; omega)
                        have HX : Hid (∀ r j, elimN c (i + 1) f1 r j = addF i c (gdz (fi i c) (fi c c)) fi r j) := by
                          intro r j
                          rw [HNX.out]; unfold elimI; rw [if_neg (fun h => by rcases h with h | h; exact HIC.out h; exact HCC.out h)]
                        have hx : gdz (fi i c) (fi c c) < 256 := gdz_lt _ _
                        have HXL := Lib.hid hx
                        clear hx
                        go_wp2_with fail
                        go_quiet ((go_at_call 26; refine Calls.quiet_of (refdiv_n _ (fi i c) (fi c c) (HBE.out i c) (HBE.out c c))))
                        go_wp2
                        have hxe : (dq (fi i c) (fi c c)).1 = gdz (fi i c) (fi c c) := rfl
                        rw [hxe]
                        clear hxe b1 b2 b3 b4 hcc2 hcc3
                        generalize gdz (fi i c) (fi c c) = x at *
                        go_loopw [15] (fun v15 wr => ∃ k : Nat, v15 = .int .i64 k ∧ Hid (k ≤ n + 1) ∧ Hid (GM wr w.heap.size ob n (n + 1) gs (partF i c x fi k)) ∧ Hid (Below w.heap.size w wr)) (fun v _ => n + 1 - (intOf v).toNat)
                        case atStart => exact ⟨0, rfl, Nat.zero_le _, by rw [partF_zero]; exact HG.out.drewN _, below_drewN' _ HB.out⟩
                        case round =>
                          obtain ⟨k, rfl, hk, HG, HB⟩ := hrel
                          by_cases hkn : k ≤ n
                          · have hkl : Hid (k < n + 1) := Nat.lt_succ_of_le hkn
                            obtain ⟨capc, b1⟩ := HG.out.cellO hcl.out
                            obtain ⟨capi, b3⟩ := HG.out.cellO hil.out
                            have b2 := HG.out.cellR hcl.out hkl.out
                            have b4 := HG.out.cellR hil.out hkl.out
                            have b5 := HG.out.frzR hil.out k
                            rw [show partF i c x fi k c k = fi c k from by unfold partF; rw [if_neg (fun h => HIC.out h.1.symm)]] at b2
                            rw [show partF i c x fi k i k = fi i k from by unfold partF; rw [if_neg (fun h => Nat.lt_irrefl k h.2)]] at b4
                            have p7 : ((k : Int) < ((n + 1 : Nat) : Int)) = True := eq_true (by have := hkl.out; omega)
                            have hka : (k : Int) ≤ (n : Int) := by omega
                            have p8 : ((k : Int) < (n : Int) + 1) = True := eq_true (by omega)
                            go_wp2_with fail
                            refine (refmul_n _ x (fi c k) HXL.out (HBE.out c k)).mono ?_
                            rintro e w7 ⟨rfl, m7, rfl⟩
                            obtain ⟨a, ea⟩ : ∃ a, a = fi i k := ⟨_, rfl⟩
                            obtain ⟨b, eb⟩ : ∃ b, b = gm x (fi c k) := ⟨_, rfl⟩
                            rw [← ea] at b4
                            rw [← eb]
                            have ha : Hid (a < 256) := by show a < 256; rw [ea]; exact HBE.out i k
                            have hb : Hid (b < 256) := by show b < 256; rw [eb]; exact gm_lt _ _
                            have EA := Lib.hid ea
                            have EB := Lib.hid eb
                            have cO1 : Hid (∀ q : Nat, (wr.drewN q).cell? ⟨ob, i, none⟩ = some (.slice (some ⟨gs i, 0, none⟩) (n + 1) capi)) := fun q => b3
                            have cO2 : Hid (∀ q : Nat, (wr.drewN q).cell? ⟨gs i, k, none⟩ = some (.int .u8 (a : Nat))) := fun q => b4
                            clear ea eb b1 b2
                            go_wp2_with fail
                            refine start_ (n := 16) (S := fun w' => w'.cell? ⟨ob, i, none⟩ = some (.slice (some ⟨gs i, 0, none⟩) (n + 1) capi) ∧ w'.cell? ⟨gs i, k, none⟩ = some (.int .u8 (a : Nat))) (ds := [15]) #[false, false, false, false, false, false, false, false, false, false, false, false, false, false, false, false] (by kernel_rfl) rfl rfl ⟨(cO1.out 0), (cO2.out 0)⟩ (fun hHeld => ?_)
                            refine pure_ (i := 0) (N := some 130) (v := ?_) (a' := ?_) #[true, false, false, false, false, false, false, false, false, false, false, false, false, false, false, false] rfl rfl (by kernel_rfl) (fun _ _ _ h => h) (Or.inl ⟨by rfl, ?_⟩) ?_ ?_
                            rotate_left
                            · intro w'
                              go_simp
                              with_reducible rfl
                            rotate_left
                            · simp only [Act.put, List.setIfInBounds_toArray, List.set_cons_zero, List.set_cons_succ, i64_w, i32_w]
                              rfl
                            refine pure_ (i := 1) (N := some 131) (v := ?_) (a' := ?_) #[true, true, false, false, false, false, false, false, false, false, false, false, false, false, false, false] rfl rfl (by kernel_rfl) (fun _ _ _ h => h) (Or.inl ⟨by rfl, ?_⟩) ?_ ?_
                            rotate_left
                            · intro w'
                              go_simp
                              with_reducible rfl
                            rotate_left
                            · simp only [Act.put, List.setIfInBounds_toArray, List.set_cons_zero, List.set_cons_succ, i64_w, i32_w]
                              rfl
                            refine pure_ (i := 2) (N := some 132) (v := ?_) (a' := ?_) #[true, true, true, false, false, false, false, false, false, false, false, false, false, false, false, false] rfl rfl (by kernel_rfl) (fun _ _ _ h => h) (Or.inl ⟨by rfl, ?_⟩) ?_ ?_
                            rotate_left
                            · intro w'
                              go_simp
                              with_reducible rfl
                            rotate_left
                            · simp only [Act.put, List.setIfInBounds_toArray, List.set_cons_zero, List.set_cons_succ, i64_w, i32_w]
                              rfl
                            refine pure_ (i := 4) (N := some 134) (v := ?_) (a' := ?_) #[true, true, true, false, true, false, false, false, false, false, false, false, false, false, false, false] rfl rfl (by kernel_rfl) (fun _ _ _ h => h) (Or.inl ⟨by rfl, ?_⟩) ?_ ?_
                            rotate_left
                            · intro w'
                              go_simp
                              with_reducible rfl
                            rotate_left
                            · simp only [Act.put, List.setIfInBounds_toArray, List.set_cons_zero, List.set_cons_succ, i64_w, i32_w]
                              rfl
                            refine pure_ (i := 5) (N := some 135) (v := ?_) (a' := ?_) #[true, true, true, false, true, true, false, false, false, false, false, false, false, false, false, false] rfl rfl (by kernel_rfl) (fun _ _ _ h => h) (Or.inl ⟨by rfl, ?_⟩) ?_ ?_
                            rotate_left
                            · intro w'
                              go_simp
                              with_reducible rfl
                            rotate_left
                            · simp only [Act.put, List.setIfInBounds_toArray, List.set_cons_zero, List.set_cons_succ, i64_w, i32_w]
                              rfl
                            refine pure_ (i := 6) (N := some 136) (v := ?_) (a' := ?_) #[true, true, true, false, true, true, true, false, false, false, false, false, false, false, false, false] rfl rfl (by kernel_rfl) (fun _ _ _ h => h) (Or.inl ⟨by rfl, ?_⟩) ?_ ?_
                            rotate_left
                            · intro w'
                              go_simp
                              with_reducible rfl
                            rotate_left
                            · simp only [Act.put, List.setIfInBounds_toArray, List.set_cons_zero, List.set_cons_succ, i64_w, i32_w]
                              rfl
                            refine pure_ (i := 7) (N := some 137) (v := ?_) (a' := ?_) #[true, true, true, false, true, true, true, true, false, false, false, false, false, false, false, false] rfl rfl (by kernel_rfl) (fun _ _ _ h => h) (Or.inl ⟨by rfl, ?_⟩) ?_ ?_
                            rotate_left
                            · intro w'
                              go_simp
                              with_reducible rfl
                            rotate_left
                            · simp only [Act.put, List.setIfInBounds_toArray, List.set_cons_zero, List.set_cons_succ, i64_w, i32_w]
                              rfl
                            refine pure_ (i := 9) (N := some 139) (v := ?_) (a' := ?_) #[true, true, true, false, true, true, true, true, false, true, false, false, false, false, false, false] rfl rfl (by kernel_rfl) (fun _ _ _ h => h) (Or.inl ⟨by rfl, ?_⟩) ?_ ?_
                            rotate_left
                            · intro w'
                              go_simp
                              with_reducible rfl
                            rotate_left
                            · simp only [Act.put, List.setIfInBounds_toArray, List.set_cons_zero, List.set_cons_succ, i64_w, i32_w]
                              rfl
                            refine pure_ (i := 12) (N := some 142) (v := ?_) (a' := ?_) #[true, true, true, false, true, true, true, true, false, true, false, false, true, false, false, false] rfl rfl (by kernel_rfl) (fun _ _ _ h => h) (Or.inl ⟨by rfl, ?_⟩) ?_ ?_
                            rotate_left
                            · intro w'
                              go_simp
                              with_reducible rfl
                            rotate_left
                            · simp only [Act.put, List.setIfInBounds_toArray, List.set_cons_zero, List.set_cons_succ, i64_w, i32_w]
                              rfl
                            refine take_ (i := 3) (N := some 133) (v := ?_) (a' := ?_) #[true, true, true, true, true, true, true, true, false, true, false, false, true, false, false, false] rfl rfl (by kernel_rfl) (fun _ _ _ h => h) (Or.inl ⟨by rfl, ?_⟩) hHeld ?_ ?_
                            rotate_left
                            · rintro w' ⟨s0, s1⟩
                              go_simp
                              with_reducible rfl
                            rotate_left
                            · simp only [Act.put, List.setIfInBounds_toArray, List.set_cons_zero, List.set_cons_succ, i64_w, i32_w]
                              rfl
                            refine take_ (i := 8) (N := some 138) (v := ?_) (a' := ?_) #[true, true, true, true, true, true, true, true, true, true, false, false, true, false, false, false] rfl rfl (by kernel_rfl) (fun _ _ _ h => h) (Or.inl ⟨by rfl, ?_⟩) hHeld ?_ ?_
                            rotate_left
                            · rintro w' ⟨s0, s1⟩
                              go_simp
                              with_reducible rfl
                            rotate_left
                            · simp only [Act.put, List.setIfInBounds_toArray, List.set_cons_zero, List.set_cons_succ, i64_w, i32_w]
                              rfl
                            refine pure_ (i := 10) (N := some 140) (v := ?_) (a' := ?_) #[true, true, true, true, true, true, true, true, true, true, true, false, true, false, false, false] rfl rfl (by kernel_rfl) (fun _ _ _ h => h) (Or.inl ⟨by rfl, ?_⟩) ?_ ?_
                            rotate_left
                            · intro w'
                              go_simp
                              with_reducible rfl
                            rotate_left
                            · simp only [Act.put, List.setIfInBounds_toArray, List.set_cons_zero, List.set_cons_succ, i64_w, i32_w]
                              rfl
                            refine take_ (i := 11) (N := some 141) (v := ?_) (a' := ?_) #[true, true, true, true, true, true, true, true, true, true, true, true, true, false, false, false] rfl rfl (by kernel_rfl) (fun _ _ _ h => h) (Or.inl ⟨by rfl, ?_⟩) hHeld ?_ ?_
                            rotate_left
                            · rintro w' ⟨s0, s1⟩
                              go_simp
                              with_reducible rfl
                            rotate_left
                            · simp only [Act.put, List.setIfInBounds_toArray, List.set_cons_zero, List.set_cons_succ, i64_w, i32_w]
                              rfl
                            refine one_ (i := 13) (N := some 143) #[true, true, true, true, true, true, true, true, true, true, true, true, true, true, false, false] rfl rfl (by kernel_rfl) (by decide) (fun K hK => ?_)
                            refine goes_ Try.func35 (by kernel_rfl) rfl #[.int .u8 (a : Nat), .int .u8 (b : Nat)] (by rfl) rfl rfl (by (try simp only [List.map_toArray, List.map_cons, List.map_nil]); first | done | rfl) ?_
                            with_reducible refine (refadd_n _ a b ha.out hb.out).mono ?_
                            rintro e w9 ⟨rfl, m9, rfl⟩
                            refine ⟨_, rfl, ?_⟩
                            refine hK.out _ _ ⟨(cO1.out m9), (cO2.out m9)⟩ (fun hHeld => ?_)
                            clear hK K
                            refine norm_ (a' := ?_) ?_ ?_
                            rotate_left
                            · show Act.put _ (some 143) _ = _
                              simp only [Act.put, List.setIfInBounds_toArray, List.set_cons_zero, List.set_cons_succ, i64_w, i32_w]
                              rfl
                            refine pure_ (i := 14) (N := some 144) (v := ?_) (a' := ?_) #[true, true, true, true, true, true, true, true, true, true, true, true, true, true, true, false] rfl rfl (by kernel_rfl) (fun _ _ _ h => h) (Or.inl ⟨by rfl, ?_⟩) ?_ ?_
                            rotate_left
                            · intro w'
                              go_simp
                              with_reducible rfl
                            rotate_left
                            · simp only [Act.put, List.setIfInBounds_toArray, List.set_cons_zero, List.set_cons_succ, i64_w, i32_w]
                              rfl
                            refine last_ (i := 15) (N := none) #[true, true, true, true, true, true, true, true, true, true, true, true, true, true, true, true] rfl rfl (by kernel_rfl) (by decide) (fun K hK => ?_)
                            refine skip_ (w1 := ?_) (by rfl) rfl ?_ ?_
                            rotate_left
                            · go_simp
                              rfl
                            refine hK.out _ _ ?_
                            clear hK K
                            refine done_ (by kernel_rfl) ?_
                            go_wp2
                            go_roundw
                            case rel =>
                              refine ⟨k + 1, next_s (by have := hkl.out; have := HN.out; omega), hkl.out, ?_, ?_⟩
                              · refine GM.congr ((HG.out.drewN (m7 + 1 + m9)).put hil.out hkl.out (a ^^^ b)) fun r q hr hq => ?_
                                rw [partF_succ, EA.out, EB.out]
                              · exact Below.setCell (p := ⟨gs i, k, none⟩) (below_drewN' (m7 + 1 + m9) HB.out) (HG.out.low i hil.out) _
                            case measure => exact meas_s (by have := HN.out; omega) hkl.out
                          · have ek : k = n + 1 := by have := hk.out; omega
                            have hg := HG.out
                            rw [ek] at hg
                            have HGN : Hid (GM wr w.heap.size ob n (n + 1) gs (elimN c (i + 1) f1)) := hg.congr fun r j hr hj => by
                              rw [HX.out r j]; unfold addF partF
                              by_cases e : r = i
                              · rw [if_pos e, if_pos ⟨e, hj⟩]
                              · rw [if_neg e, if_neg (fun h => e h.1)]
                            clear hg HG ek
                            go_wp2
                            go_roundw
                            case rel => exact ⟨i + 1, next_s (by have := hil.out; have := HN.out; omega), hil.out, HGN, HB⟩
                            case measure => exact meas_s (by have := HN.out; omega) hil.out
                  · have ei : i = n := by have := hi.out; omega
                    have hg := HG.out
                    rw [ei, ← HFE2.out] at hg
                    have HGN := Lib.hid hg
                    clear hg HG ei
                    go_wp2
                    go_roundw
                    case rel => exact ⟨c + 1, gs, next_s (by have := hcl.out; have := HN.out; omega), hcl.out, HGN, HB⟩
                    case measure => exact meas_s (by have := HN.out; omega) hcl.out
            · have hpe := DONE.out (.inl hq)
              have HPE := Lib.hid hpe
              clear hpe
              clear DONE HP
              have hPn : pv f c (n - 1 - c) c < n := by rw [← HPE.out]; exact hp.out
              have hpP := HPE.out
              rw [← hpP] at hPn
              obtain ⟨cap1, k1⟩ := HG.out.cellO hcl.out
              obtain ⟨cap2, k2⟩ := HG.out.cellO hp.out
              have z1 := HG.out.frzO c
              have z2 := HG.out.frzO p
              have hsw := HG.out.swap hcl.out hp.out k1 k2
              have HSW := Lib.hid hsw
              have HBS := Lib.hid ((HB.out.setCell (p := ⟨ob, c, none⟩) HG.out.lowo (.slice (some ⟨g p, 0, none⟩) (n + 1) cap2)).setCell (p := ⟨ob, p, none⟩) HG.out.lowo (.slice (some ⟨g c, 0, none⟩) (n + 1) cap1))
              obtain ⟨v1, hv1⟩ := cell?_setCell_some (w := wr) (p := ⟨ob, c, none⟩) (x := .slice (some ⟨g p, 0, none⟩) (n + 1) cap2) (q := ⟨ob, p, none⟩) (v := .slice (some ⟨g p, 0, none⟩) (n + 1) cap2) k2
              have p3 : ((c : Int) < (n : Int)) = True := eq_true (by have := hcl.out; omega)
              have p4 : ((p : Int) < (n : Int)) = True := eq_true (by have := hp.out; omega)
              clear hsw hpP hPn HG HB
              go_wp2_with fail
              generalize ((wr.setCell ⟨ob, c, none⟩ (.slice (some ⟨g p, 0, none⟩) (n + 1) cap2)).setCell ⟨ob, p, none⟩ (.slice (some ⟨g c, 0, none⟩) (n + 1) cap1)) = ws at *
              clear hv1 z1 z2 k1 k2 p3 p4
              try rw [hw1]
              clear hw1
              have HGS := HSW
              have HBF2 : Hid (BF (swF c p f)) := HBF.out.sw c p
              have HFE2 : Hid (stepN n (c + 1) (augF rows y n) = elimN c n (swF c p f)) := by
                show elimN c n (swF c (pv (stepN n c (augF rows y n)) c (n - 1 - c) c) (stepN n c (augF rows y n))) = _
                rw [← HFE.out, ← HPE.out]
              generalize (fun r => if r = p then g c else if r = c then g p else g r) = gs at *
              generalize swF c p f = f1 at *
              clear HSW HPE HFE HBF
              go_wp2
              go_loopw [12] (fun v12 wr => ∃ i : Nat, v12 = .int .i64 i ∧ Hid (i ≤ n) ∧ Hid (GM wr w.heap.size ob n (n + 1) gs (elimN c i f1)) ∧ Hid (Below w.heap.size w wr)) (fun v _ => n - (intOf v).toNat)
              case atStart => exact ⟨0, rfl, Nat.zero_le _, HGS, HBS⟩
              case round =>
                obtain ⟨i, rfl, hi, HG, HB⟩ := hrel
                by_cases hin : i < n
                · have hil : Hid (i < n) := hin
                  have HBE : Hid (BF (elimN c i f1)) := HBF2.out.elimN c i
                  have HNX : Hid (elimN c (i + 1) f1 = elimI c i (elimN c i f1)) := rfl
                  generalize elimN c i f1 = fi at *
                  by_cases hic : i = c
                  · have HX : Hid (elimN c (i + 1) f1 = fi) := by
                      show _ = fi
                      rw [HNX.out]; unfold elimI; rw [if_pos (.inl hic)]
                    have hic2 : ((i : Int) == (c : Int)) = true := by rw [hic]; simp
                    clear hic
                    go_wp2_with fail
                    go_roundw
                    case rel => exact ⟨i + 1, next_s (by have := hil.out; have := HN.out; omega), hil.out, by rw [HX.out]; exact HG, HB⟩
                    case measure => exact meas_s (by have := HN.out; omega) hil.out
                  · have hic2 : ((i : Int) == (c : Int)) = false := beq_eq_false_iff_ne.2 (by omega)
                    have hic3 : ¬ (i : Int) = (c : Int) := by omega
                    obtain ⟨capc, b1⟩ := HG.out.cellO hcl.out
                    have b2 := HG.out.cellR (j := c) hcl.out (by have := hcl.out; omega)
                    have p3 : ((c : Int) < (n : Int)) = True := eq_true (by have := hcl.out; omega)
                    have p5 : ((c : Int) < ((n + 1 : Nat) : Int)) = True := eq_true (by have := hcl.out; omega)
                    have HIC := Lib.hid hic
                    clear hic
                    by_cases hcc : fi c c = 0
                    · have HX : Hid (elimN c (i + 1) f1 = fi) := by
                        show _ = fi
                        rw [HNX.out]; unfold elimI; rw [if_pos (.inr hcc)]
                      rw [hcc] at b2
                      clear hcc
                      go_wp2_with fail
                      go_roundw
                      case rel => exact ⟨i + 1, next_s (by have := hil.out; have := HN.out; omega), hil.out, by rw [HX.out]; exact HG, HB⟩
                      case measure => exact meas_s (by have := HN.out; omega) hil.out
                    · have hcc2 : (((fi c c : Nat) : Int) == 0) = false := beq_eq_false_iff_ne.2 (by omega)
                      have hcc3 : ¬ ((fi c c : Nat) : Int) = 0 := by omega
                      have HCC := Lib.hid hcc
                      clear hcc
                      obtain ⟨capi, b3⟩ := HG.out.cellO hil.out
                      have b4 := HG.out.cellR (j := c) hil.out (by have := hcl.out; omega)
                      have p6 : ((i : Int) < (n : Int)) = True := eq_true (by have := hil.out; omega)
                      have HX : Hid (∀ r j, elimN c (i + 1) f1 r j = addF i c (gdz (fi i c) (fi c c)) fi r j) := by
                        intro r j
                        rw [HNX.out]; unfold elimI; rw [if_neg (fun h => by rcases h with h | h; exact HIC.out h; exact HCC.out h)]
                      have hx : gdz (fi i c) (fi c c) < 256 := gdz_lt _ _
                      have HXL := Lib.hid hx
                      clear hx
                      go_wp2_with fail
                      go_quiet ((go_at_call 26; refine Calls.quiet_of (refdiv_n _ (fi i c) (fi c c) (HBE.out i c) (HBE.out c c))))
                      go_wp2
                      have hxe : (dq (fi i c) (fi c c)).1 = gdz (fi i c) (fi c c) := rfl
                      rw [hxe]
                      clear hxe b1 b2 b3 b4 hcc2 hcc3
                      generalize gdz (fi i c) (fi c c) = x at *
                      go_loopw [15] (fun v15 wr => ∃ k : Nat, v15 = .int .i64 k ∧ Hid (k ≤ n + 1) ∧ Hid (GM wr w.heap.size ob n (n + 1) gs (partF i c x fi k)) ∧ Hid (Below w.heap.size w wr)) (fun v _ => n + 1 - (intOf v).toNat)
                      case atStart => exact ⟨0, rfl, Nat.zero_le _, by rw [partF_zero]; exact HG.out.drewN _, below_drewN' _ HB.out⟩
                      case round =>
                        obtain ⟨k, rfl, hk, HG, HB⟩ := hrel
                        by_cases hkn : k ≤ n
                        · have hkl : Hid (k < n + 1) := Nat.lt_succ_of_le hkn
                          obtain ⟨capc, b1⟩ := HG.out.cellO hcl.out
                          obtain ⟨capi, b3⟩ := HG.out.cellO hil.out
                          have b2 := HG.out.cellR hcl.out hkl.out
                          have b4 := HG.out.cellR hil.out hkl.out
                          have b5 := HG.out.frzR hil.out k
                          rw [show partF i c x fi k c k = fi c k from by unfold partF; rw [if_neg (fun h => HIC.out h.1.symm)]] at b2
                          rw [show partF i c x fi k i k = fi i k from by unfold partF; rw [if_neg (fun h => Nat.lt_irrefl k h.2)]] at b4
                          have p7 : ((k : Int) < ((n + 1 : Nat) : Int)) = True := eq_true (by have := hkl.out; omega)
                          have hka : (k : Int) ≤ (n : Int) := by omega
                          have p8 : ((k : Int) < (n : Int) + 1) = True := eq_true (by omega)
                          go_wp2_with fail
                          refine (refmul_n _ x (fi c k) HXL.out (HBE.out c k)).mono ?_
                          rintro e w7 ⟨rfl, m7, rfl⟩
                          obtain ⟨a, ea⟩ : ∃ a, a = fi i k := ⟨_, rfl⟩
                          obtain ⟨b, eb⟩ : ∃ b, b = gm x (fi c k) := ⟨_, rfl⟩
                          rw [← ea] at b4
                          rw [← eb]
                          have ha : Hid (a < 256) := by show a < 256; rw [ea]; exact HBE.out i k
                          have hb : Hid (b < 256) := by show b < 256; rw [eb]; exact gm_lt _ _
                          have EA := Lib.hid ea
                          have EB := Lib.hid eb
                          have cO1 : Hid (∀ q : Nat, (wr.drewN q).cell? ⟨ob, i, none⟩ = some (.slice (some ⟨gs i, 0, none⟩) (n + 1) capi)) := fun q => b3
                          have cO2 : Hid (∀ q : Nat, (wr.drewN q).cell? ⟨gs i, k, none⟩ = some (.int .u8 (a : Nat))) := fun q => b4
                          clear ea eb b1 b2
                          go_wp2_with fail
                          refine start_ (n := 16) (S := fun w' => w'.cell? ⟨ob, i, none⟩ = some (.slice (some ⟨gs i, 0, none⟩) (n + 1) capi) ∧ w'.cell? ⟨gs i, k, none⟩ = some (.int .u8 (a : Nat))) (ds := [15]) #[false, false, false, false, false, false, false, false, false, false, false, false, false, false, false, false] (by kernel_rfl) rfl rfl ⟨(cO1.out 0), (cO2.out 0)⟩ (fun hHeld => ?_)
                          refine pure_ (i := 0) (N := some 130) (v := ?_) (a' := ?_) #[true, false, false, false, false, false, false, false, false, false, false, false, false, false, false, false] rfl rfl (by kernel_rfl) (fun _ _ _ h => h) (Or.inl ⟨by rfl, ?_⟩) ?_ ?_
                          rotate_left
                          · intro w'
                            go_simp
                            with_reducible rfl
                          rotate_left
                          · simp only [Act.put, List.setIfInBounds_toArray, List.set_cons_zero, List.set_cons_succ, i64_w, i32_w]
                            rfl
                          refine pure_ (i := 1) (N := some 131) (v := ?_) (a' := ?_) #[true, true, false, false, false, false, false, false, false, false, false, false, false, false, false, false] rfl rfl (by kernel_rfl) (fun _ _ _ h => h) (Or.inl ⟨by rfl, ?_⟩) ?_ ?_
                          rotate_left
                          · intro w'
                            go_simp
                            with_reducible rfl
                          rotate_left
                          · simp only [Act.put, List.setIfInBounds_toArray, List.set_cons_zero, List.set_cons_succ, i64_w, i32_w]
                            rfl
                          refine pure_ (i := 2) (N := some 132) (v := ?_) (a' := ?_) #[true, true, true, false, false, false, false, false, false, false, false, false, false, false, false, false] rfl rfl (by kernel_rfl) (fun _ _ _ h => h) (Or.inl ⟨by rfl, ?_⟩) ?_ ?_
                          rotate_left
                          · intro w'
                            go_simp
                            with_reducible rfl
                          rotate_left
                          · simp only [Act.put, List.setIfInBounds_toArray, List.set_cons_zero, List.set_cons_succ, i64_w, i32_w]
                            rfl
                          refine pure_ (i := 4) (N := some 134) (v := ?_) (a' := ?_) #[true, true, true, false, true, false, false, false, false, false, false, false, false, false, false, false] rfl rfl (by kernel_rfl) (fun _ _ _ h => h) (Or.inl ⟨by rfl, ?_⟩) ?_ ?_
                          rotate_left
                          · intro w'
                            go_simp
                            with_reducible rfl
                          rotate_left
                          · simp only [Act.put, List.setIfInBounds_toArray, List.set_cons_zero, List.set_cons_succ, i64_w, i32_w]
                            rfl
                          refine pure_ (i := 5) (N := some 135) (v := ?_) (a' := ?_) #[true, true, true, false, true, true, false, false, false, false, false, false, false, false, false, false] rfl rfl (by kernel_rfl) (fun _ _ _ h => h) (Or.inl ⟨by rfl, ?_⟩) ?_ ?_
                          rotate_left
                          · intro w'
                            go_simp
                            with_reducible rfl
                          rotate_left
                          · simp only [Act.put, List.setIfInBounds_toArray, List.set_cons_zero, List.set_cons_succ, i64_w, i32_w]
                            rfl
                          refine pure_ (i := 6) (N := some 136) (v := ?_) (a' := ?_) #[true, true, true, false, true, true, true, false, false, false, false, false, false, false, false, false] rfl rfl (by kernel_rfl) (fun _ _ _ h => h) (Or.inl ⟨by rfl, ?_⟩) ?_ ?_
                          rotate_left
                          · intro w'
                            go_simp
                            with_reducible rfl
                          rotate_left
                          · simp only [Act.put, List.setIfInBounds_toArray, List.set_cons_zero, List.set_cons_succ, i64_w, i32_w]
                            rfl
                          refine pure_ (i := 7) (N := some 137) (v := ?_) (a' := ?_) #[true, true, true, false, true, true, true, true, false, false, false, false, false, false, false, false] rfl rfl (by kernel_rfl) (fun _ _ _ h => h) (Or.inl ⟨by rfl, ?_⟩) ?_ ?_
                          rotate_left
                          · intro w'
                            go_simp
                            with_reducible rfl
                          rotate_left
                          · simp only [Act.put, List.setIfInBounds_toArray, List.set_cons_zero, List.set_cons_succ, i64_w, i32_w]
                            rfl
                          refine pure_ (i := 9) (N := some 139) (v := ?_) (a' := ?_) #[true, true, true, false, true, true, true, true, false, true, false, false, false, false, false, false] rfl rfl (by kernel_rfl) (fun _ _ _ h => h) (Or.inl ⟨by rfl, ?_⟩) ?_ ?_
                          rotate_left
                          · intro w'
                            go_simp
                            with_reducible rfl
                          rotate_left
                          · simp only [Act.put, List.setIfInBounds_toArray, List.set_cons_zero, List.set_cons_succ, i64_w, i32_w]
                            rfl
                          refine pure_ (i := 12) (N := some 142) (v := ?_) (a' := ?_) #[true, true, true, false, true, true, true, true, false, true, false, false, true, false, false, false] rfl rfl (by kernel_rfl) (fun _ _ _ h => h) (Or.inl ⟨by rfl, ?_⟩) ?_ ?_
                          rotate_left
                          · intro w'
                            go_simp
                            with_reducible rfl
                          rotate_left
                          · simp only [Act.put, List.setIfInBounds_toArray, List.set_cons_zero, List.set_cons_succ, i64_w, i32_w]
                            rfl
                          refine take_ (i := 3) (N := some 133) (v := ?_) (a' := ?_) #[true, true, true, true, true, true, true, true, false, true, false, false, true, false, false, false] rfl rfl (by kernel_rfl) (fun _ _ _ h => h) (Or.inl ⟨by rfl, ?_⟩) hHeld ?_ ?_
                          rotate_left
                          · rintro w' ⟨s0, s1⟩
                            go_simp
                            with_reducible rfl
                          rotate_left
                          · simp only [Act.put, List.setIfInBounds_toArray, List.set_cons_zero, List.set_cons_succ, i64_w, i32_w]
                            rfl
                          refine take_ (i := 8) (N := some 138) (v := ?_) (a' := ?_) #[true, true, true, true, true, true, true, true, true, true, false, false, true, false, false, false] rfl rfl (by kernel_rfl) (fun _ _ _ h => h) (Or.inl ⟨by rfl, ?_⟩) hHeld ?_ ?_
                          rotate_left
                          · rintro w' ⟨s0, s1⟩
                            go_simp
                            with_reducible rfl
                          rotate_left
                          · simp only [Act.put, List.setIfInBounds_toArray, List.set_cons_zero, List.set_cons_succ, i64_w, i32_w]
                            rfl
                          refine pure_ (i := 10) (N := some 140) (v := ?_) (a' := ?_) #[true, true, true, true, true, true, true, true, true, true, true, false, true, false, false, false] rfl rfl (by kernel_rfl) (fun _ _ _ h => h) (Or.inl ⟨by rfl, ?_⟩) ?_ ?_
                          rotate_left
                          · intro w'
                            go_simp
                            with_reducible rfl
                          rotate_left
                          · simp only [Act.put, List.setIfInBounds_toArray, List.set_cons_zero, List.set_cons_succ, i64_w, i32_w]
                            rfl
                          refine take_ (i := 11) (N := some 141) (v := ?_) (a' := ?_) #[true, true, true, true, true, true, true, true, true, true, true, true, true, false, false, false] rfl rfl (by kernel_rfl) (fun _ _ _ h => h) (Or.inl ⟨by rfl, ?_⟩) hHeld ?_ ?_
                          rotate_left
                          · rintro w' ⟨s0, s1⟩
                            go_simp
                            with_reducible rfl
                          rotate_left
                          · simp only [Act.put, List.setIfInBounds_toArray, List.set_cons_zero, List.set_cons_succ, i64_w, i32_w]
                            rfl
                          refine one_ (i := 13) (N := some 143) #[true, true, true, true, true, true, true, true, true, true, true, true, true, true, false, false] rfl rfl (by kernel_rfl) (by decide) (fun K hK => ?_)
                          refine goes_ Try.func35 (by kernel_rfl) rfl #[.int .u8 (a : Nat), .int .u8 (b : Nat)] (by rfl) rfl rfl (by (try simp only [List.map_toArray, List.map_cons, List.map_nil]); first | done | rfl) ?_
                          with_reducible refine (refadd_n _ a b ha.out hb.out).mono ?_
                          rintro e w9 ⟨rfl, m9, rfl⟩
                          refine ⟨_, rfl, ?_⟩
                          refine hK.out _ _ ⟨(cO1.out m9), (cO2.out m9)⟩ (fun hHeld => ?_)
                          clear hK K
                          refine norm_ (a' := ?_) ?_ ?_
                          rotate_left
                          · show Act.put _ (some 143) _ = _
                            simp only [Act.put, List.setIfInBounds_toArray, List.set_cons_zero, List.set_cons_succ, i64_w, i32_w]
                            rfl
                          refine pure_ (i := 14) (N := some 144) (v := ?_) (a' := ?_) #[true, true, true, true, true, true, true, true, true, true, true, true, true, true, true, false] rfl rfl (by kernel_rfl) (fun _ _ _ h => h) (Or.inl ⟨by rfl, ?_⟩) ?_ ?_
                          rotate_left
                          · intro w'
                            go_simp
                            with_reducible rfl
                          rotate_left
                          · simp only [Act.put, List.setIfInBounds_toArray, List.set_cons_zero, List.set_cons_succ, i64_w, i32_w]
                            rfl
                          refine last_ (i := 15) (N := none) #[true, true, true, true, true, true, true, true, true, true, true, true, true, true, true, true] rfl rfl (by kernel_rfl) (by decide) (fun K hK => ?_)
                          refine skip_ (w1 := ?_) (by rfl) rfl ?_ ?_
                          rotate_left
                          · go_simp
                            rfl
                          refine hK.out _ _ ?_
                          clear hK K
                          refine done_ (by kernel_rfl) ?_
                          go_wp2
                          go_roundw
                          case rel =>
                            refine ⟨k + 1, next_s (by have := hkl.out; have := HN.out; omega), hkl.out, ?_, ?_⟩
                            · refine GM.congr ((HG.out.drewN (m7 + 1 + m9)).put hil.out hkl.out (a ^^^ b)) fun r q hr hq => ?_
                              rw [partF_succ, EA.out, EB.out]
                            · exact Below.setCell (p := ⟨gs i, k, none⟩) (below_drewN' (m7 + 1 + m9) HB.out) (HG.out.low i hil.out) _
                          case measure => exact meas_s (by have := HN.out; omega) hkl.out
                        · have ek : k = n + 1 := by have := hk.out; omega
                          have hg := HG.out
                          rw [ek] at hg
                          have HGN : Hid (GM wr w.heap.size ob n (n + 1) gs (elimN c (i + 1) f1)) := hg.congr fun r j hr hj => by
                            rw [HX.out r j]; unfold addF partF
                            by_cases e : r = i
                            · rw [if_pos e, if_pos ⟨e, hj⟩]
                            · rw [if_neg e, if_neg (fun h => e h.1)]
                          clear hg HG ek
                          go_wp2
                          go_roundw
                          case rel => exact ⟨i + 1, next_s (by have := hil.out; have := HN.out; omega), hil.out, HGN, HB⟩
                          case measure => exact meas_s (by have := HN.out; omega) hil.out
                · have ei : i = n := by have := hi.out; omega
                  have hg := HG.out
                  rw [ei, ← HFE2.out] at hg
                  have HGN := Lib.hid hg
                  clear hg HG ei
                  go_wp2
                  go_roundw
                  case rel => exact ⟨c + 1, gs, next_s (by have := hcl.out; have := HN.out; omega), hcl.out, HGN, HB⟩
                  case measure => exact meas_s (by have := HN.out; omega) hcl.out
        · have ec : c = n := by have := hc.out; omega
          have hg := HG.out
          rw [ec] at hg
          have HGN := Lib.hid hg
          have HBF : Hid (BF (stepN n n (augF rows y n))) := HF0.out.stepN n n
          have HSV : Hid (solvedL n rows y = (List.range n).map fun i => gdz (stepN n n (augF rows y n) i n) (stepN n n (augF rows y n) i i)) := rfl
          generalize stepN n n (augF rows y n) = F at *
          clear hg HG ec hc
          rename World => w1
          go_wp2
          go_loopw [17, 18] (fun v17 v18 wq => ∃ i : Nat, v18 = .int .i64 i ∧ Hid (i ≤ n) ∧ Hid ((Kd.int .u8).R 5 wq w1.heap.size (fun _ => True) v17 (ints ((List.range i).map fun i => gdz (F i n) (F i i)))) ∧ Hid (Below w1.heap.size w1 wq)) (fun _ v _ => n - (intOf v).toNat)
          case atStart => exact ⟨0, rfl, Nat.zero_le _, Kd.R_nil _ _ _ _ _, Below.refl _ _⟩
          case round =>
            obtain ⟨i, rfl, hi, HO, HW⟩ := hrel
            by_cases hin : i < n
            · have hil : Hid (i < n) := hin
              have hgw := HGN.out.below HW.out
              obtain ⟨capi, b1⟩ := hgw.cellO hin
              have b2 := hgw.cellR (i := i) (j := n) hin (by omega)
              have b3 := hgw.cellR (i := i) (j := i) hin (by omega)
              have p1 : ((i : Int) < (n : Int)) = True := eq_true (by omega)
              have p2 : ((n : Int) < ((n + 1 : Nat) : Int)) = True := eq_true (by omega)
              have p3 : ((i : Int) < ((n + 1 : Nat) : Int)) = True := eq_true (by omega)
              have p4 : ((n : Int) < (n : Int) + 1) = True := eq_true (by omega)
              have p5 : ((i : Int) < (n : Int) + 1) = True := eq_true (by omega)
              obtain ⟨xs, hxs⟩ : ∃ xs, xs = ints ((List.range i).map fun i => gdz (F i n) (F i i)) := ⟨_, rfl⟩
              rw [← hxs] at HO
              have hnx : Hid (ints ((List.range (i + 1)).map fun i => gdz (F i n) (F i i)) = xs ++ [((gdz (F i n) (F i i) : Nat) : Int)]) := by
                show _ = _
                rw [List.range_succ, List.map_append, hxs]; unfold ints; rw [List.map_append]; rfl
              have hxl : Hid (xs.length ≤ 64) := by
                show _ ≤ _
                rw [hxs, ints_len, List.length_map, List.length_range]; have := HN.out; omega
              clear hgw hxs
              go_wp2_with fail
              go_quiet ((go_at_call 26; refine Calls.quiet_of (refdiv_n _ (F i n) (F i i) (HBF.out i n) (HBF.out i i))))
              go_wp2_with (at_builtin; refine Kd.R_append (Kd.int .u8) (w0 := w1) w1.heap.size rfl (.tmp 168) (.tmp 170) 43 5 (.int .u8 0) 1 rfl Try.underlying43 info5c rfl (by decide) (by omega) u17 xs (((dq (F i n) (F i i)).1 : Nat) : Int) [.int .u8 ((dq (F i n) (F i i)).1 : Nat)] (fun _ => True) (fun _ => False) rfl rfl rfl (fun _ h => h.elim) (fun _ _ => trivial) ?aO ?aB ?aS ?aL ?_)
              case aO => exact Kd.R_drewN HO.out _
              case aB => exact below_drewN' _ HW.out
              case aS => exact HW.out.size
              case aL => have := hxl.out; omega
              intro v1 w2 ho hb hg hat
              rw [show (((dq (F i n) (F i i)).1 : Nat) : Int) = ((gdz (F i n) (F i i) : Nat) : Int) from rfl, ← hnx.out] at ho
              have HO2 := Lib.hid ho
              have HW2 := Lib.hid hb
              clear ho hb hg hat
              go_wp2_with fail
              go_roundw
              case rel => exact ⟨i + 1, next_s (by have := hil.out; have := HN.out; omega), hil.out, HO2, HW2⟩
              case measure => exact meas_s (by have := HN.out; omega) hil.out
            · have ei : i = n := by have := hi.out; omega
              have ho := HO.out
              rw [ei, ← HSV.out] at ho
              have HO2 := Lib.hid (Kd.R_lower ho HB.out.size)
              have HW2 := Lib.hid (HB.out.trans (HW.out.mono HB.out.size))
              obtain ⟨A7, c7, e7⟩ := Kd.R_slice ho
              clear ho ei
              go_wp2_with fail
              go_ret
              exact ⟨_, rfl, HO2.out, HW2.out⟩
end Go.Proofs.Ythblmkailhdhlaa.Mat
