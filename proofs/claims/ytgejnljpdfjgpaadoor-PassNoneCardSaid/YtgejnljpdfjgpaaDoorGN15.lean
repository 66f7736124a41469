/- PassNone: whatever the parts and the bag, the law answers true, and what comes in reads as it did; its conditions: those of the card: three tables of the library start as the program's text lays them. -/
import Derived.Deep.QuietTactic
import Derived.BigQuiet
import Derived.LoopTactic
import Derived.Deep.RegionLaw
import Derived.SevenTiedAt
import Derived.Test.YtgejnljpdfjgpaaDoorGN2
import Derived.Test.YtgejnljpdfjgpaaDoorGN5
import Derived.Test.YtgejnljpdfjgpaaDoorGN7
import Derived.Test.YtgejnljpdfjgpaaDoorGN12
import Derived.Test.YtgejnljpdfjgpaaDoorGN13
import Derived.Test.YtgejnljpdfjgpaaDoorGN14
/- slices.EqualFunc over rows with slices.Equal, and rel.Same: whether two relations are one. Their conditions: what they are handed is read at the call. -/
namespace Go.Proofs.YtgejnljpdfjgpaaDoor.Q
open Go.RowKit Go.Proofs Go.Proofs.YtgejnljpdfjgpaaDoorW.PrintWords Go.Proofs.YtgejnljpdfjgpaaDoorW.PrintLast Go.Proofs.YtgejnljpdfjgpaaDoorW.PrintMore
set_option linter.unusedVariables false
set_option linter.unusedSimpArgs false

theorem ret_bool {a b : Bool} (h : a = b) : Ending.returned (.bool a) = .returned (.bool b) := by rw [h]
theorem below_drewN {w W : World} (h : Below w.heap.size w W) (m : Nat) : Below w.heap.size w (W.drewN m) := pw_below_drewN h m
theorem eq_of_takes {l0 l1 : List (List Int)} (h : l0.length = l1.length) (ht : l0.take l0.length = l1.take l0.length) : l0 = l1 := by
  rw [List.take_length] at ht
  rw [ht, h, List.take_length]

set_option maxHeartbeats 1000000 in
set_option maxRecDepth 100000 in
theorem slices_EqualFunc.calls (A0 : Option Addr) (c0 : Nat) (l0 : List (List Int)) (A1 : Option Addr) (c1 : Nat) (l1 : List (List Int)) (w : World) (hr0 : Kd.C (Kd.slice 3 (Kd.int .i64)) w A0 l0.length l0) (hr1 : Kd.C (Kd.slice 3 (Kd.int .i64)) w A1 l1.length l1) :
    Calls Tryd.prog 39 #[.slice A0 l0.length c0, .slice A1 l1.length c1, .func (.func 38) #[] #[]] w fun e w' => e = .returned (.bool (decide (l0 = l1))) ∧ Drawn0 w w' := by
  obtain ⟨r, hr⟩ : ∃ r, decide (l0 = l1) = r := ⟨_, rfl⟩
  rw [hr]
  have HRR := Aside0.mk hr
  have HR0 := Aside0.mk hr0
  have HR1 := Aside0.mk hr1
  have hm0 : l0.length ≤ maxLen := Kd.C_max hr0
  unfold maxLen at hm0
  clear hr0 hr1 hr
  by_cases hl : (l0.length : Int) = (l1.length : Int)
  · have c3b0 : ((l0.length : Int) == (l1.length : Int)) = true := beq_iff_eq.mpr hl
    have c3b1 : ((l0.length : Int) != (l1.length : Int)) = false := bne_eq_false_iff_eq.mpr hl
    have c3b2 : (l0.length == l1.length) = true := by first | simpa using hl | (simp at hl ⊢; omega)
    have HL := Aside0.mk (show l0.length = l1.length by omega)
    clear hl
    go_enter Tryd.func39, Tryd.ntmps39
    go_wp2
    go_loopw [17] (fun i wr => ∃ k : Nat, k ≤ l0.length ∧ i = .int .i64 k ∧ Aside0 (l0.take k = l1.take k) ∧ Drawn0 w wr) (fun i _ => l0.length - (intOf i).toNat)
    case atStart => exact ⟨0, Nat.zero_le _, rfl, aside0 rfl, by repeat (first | exact Drawn0.refl _ | apply Drawn0.step)⟩
    case round =>
      clear c3b0 c3b1 c3b2
      obtain ⟨k, hk, rfl, HT, ⟨⟨m, rfl⟩⟩⟩ := hrel
      by_cases hlt : k < l0.length
      · have hd : decide ((k : Int) < (l0.length : Int)) = true := decide_eq_true (by omega)
        have hd2 : decide (k < l0.length) = true := decide_eq_true hlt
        have hk1 : k < l1.length := by have := HL.out; omega
        obtain ⟨ad0, B0, d0, e0, hx0, hl0, hC0⟩ := at_sl HR0.out k hlt
        obtain ⟨ad1, B1, d1, e1, hx1, hl1, hC1⟩ := at_sl HR1.out k hk1
        subst e0 e1
        have HT0 := Aside0.mk (show l0.take (k + 1) = l0.take k ++ [l0.getD k []] from by rw [List.take_succ_eq_append_getElem hlt, List.getD_eq_getElem?_getD, List.getElem?_eq_getElem hlt]; rfl)
        have HT1 := Aside0.mk (show l1.take (k + 1) = l1.take k ++ [l1.getD k []] from by rw [List.take_succ_eq_append_getElem hk1, List.getD_eq_getElem?_getD, List.getElem?_eq_getElem hk1]; rfl)
        generalize l0.getD k [] = y0 at hx0 hl0 hC0 HT0
        generalize l1.getD k [] = y1 at hx1 hl1 hC1 HT1
        have HC0 := Aside0.mk (And.intro hl0 hC0)
        have HC1 := Aside0.mk (And.intro hl1 hC1)
        have hm1 : y0.length ≤ 9223372036854775807 := Kd.C_max hC0
        have HY := Aside0.mk (slices_Equal_eq y0 y1 hm1)
        have hk0 : (0 : Int) ≤ (k : Int) := by omega
        have hk2 : (k : Int) < (l0.length : Int) := by omega
        have hk3 : (k : Int) < (l1.length : Int) := by omega
        clear hl0 hC0 hl1 hC1 hm1
        obtain ⟨b, hb⟩ : ∃ b, decide (y0 = y1) = b := ⟨_, rfl⟩
        rw [hb] at HY
        have HB := Aside0.mk hb
        clear hb
        cases b
        all_goals
          go_wp2_with (go_at_call 38; refine (slices_Equal_int_int.calls _ B0 d0 y0 B1 d1 y1 _ _ (Kd.C_below HC0.out.2 (by (repeat apply below_drew1); exact (Drawn0.mk ⟨m, rfl⟩).below)) HC0.out.1 (Kd.C_below HC1.out.2 (by (repeat apply below_drew1); exact (Drawn0.mk ⟨m, rfl⟩).below)) HC1.out.1 HY.out).mono ?_; rintro e w' ⟨rfl, ⟨⟨m2, rfl⟩⟩⟩)
        · go_ret
          refine ⟨ret_bool ?_, by repeat (first | exact Drawn0.refl _ | apply Drawn0.step)⟩
          have : l0 ≠ l1 := fun e => by
            have h0 := HT0.out
            rw [e, HT1.out] at h0
            have := List.append_inj_right h0 rfl
            have h2 := of_decide_eq_false HB.out
            simp at this
            exact h2 this.symm
          exact ((decide_eq_false this).symm.trans HRR.out)
        · go_roundw
          case rel => exact ⟨k + 1, by omega, by go_num, aside0 (by rw [HT0.out, HT1.out, HT.out, of_decide_eq_true HB.out]), by repeat (first | exact Drawn0.refl _ | apply Drawn0.step)⟩
          case measure => simp [intOf]; omega
      · obtain rfl : k = l0.length := by omega
        have hd2 : decide (l0.length < l0.length) = false := decide_eq_false (by omega)
        go_wp2
        go_ret
        exact ⟨ret_bool ((decide_eq_true (eq_of_takes HL.out HT.out)).symm.trans HRR.out), by repeat (first | exact Drawn0.refl _ | apply Drawn0.step)⟩
  · have c3b0 : ((l0.length : Int) == (l1.length : Int)) = false := by simpa using hl
    have c3b1 : ((l0.length : Int) != (l1.length : Int)) = true := by simpa using hl
    have c3b2 : (l0.length == l1.length) = false := by simp; omega
    have HN := Aside0.mk (show l0 ≠ l1 from fun e => hl (by rw [e]))
    clear hl
    go_enter Tryd.func39, Tryd.ntmps39
    go_wp2
    go_ret
    exact ⟨ret_bool ((decide_eq_false HN.out).symm.trans HRR.out), by repeat (first | exact Drawn0.refl _ | apply Drawn0.step)⟩

set_option maxHeartbeats 1000000 in
set_option maxRecDepth 100000 in
theorem rel_Same.calls (A0 : Option Addr) (c0 : Nat) (sA : List Int) (A1 : Option Addr) (c1 : Nat) (rA : List (List Int)) (A2 : Option Addr) (c2 : Nat) (sB : List Int) (A3 : Option Addr) (c3 : Nat) (rB : List (List Int)) (w : World)
    (hr0 : Kd.C (Kd.int .i64) w A0 sA.length sA) (hc0 : sA.length ≤ c0) (hr1 : Kd.C (Kd.slice 3 (Kd.int .i64)) w A1 rA.length rA) (hr2 : Kd.C (Kd.int .i64) w A2 sB.length sB) (hc2 : sB.length ≤ c2) (hr3 : Kd.C (Kd.slice 3 (Kd.int .i64)) w A3 rB.length rB) :
    Calls Tryd.prog 27 #[.agg #[.slice A0 sA.length c0, .slice A1 rA.length c1], .agg #[.slice A2 sB.length c2, .slice A3 rB.length c3]] w fun e w' => e = .returned (.bool (decide (sA = sB ∧ rA = rB))) ∧ Below w.heap.size w w' := by
  obtain ⟨r, hr⟩ : ∃ r, decide (sA = sB ∧ rA = rB) = r := ⟨_, rfl⟩
  rw [hr]
  have HRR := Aside0.mk hr
  have HR0 := Aside0.mk hr0
  have HC0 := Aside0.mk hc0
  have HR1 := Aside0.mk hr1
  have HR2 := Aside0.mk hr2
  have HC2 := Aside0.mk hc2
  have HR3 := Aside0.mk hr3
  have hm0 : sA.length ≤ 9223372036854775807 := Kd.C_max hr0
  have HS := Aside0.mk (slices_Equal_eq sA sB hm0)
  clear hr hr0 hc0 hr1 hr2 hc2 hr3 hm0
  have HB0 := Aside0.mk (show Below w.heap.size w ((w.alloc (.cells #[.slice A0 sA.length c0, .slice A1 rA.length c1] 36)).alloc (.cells #[.slice A2 sB.length c2, .slice A3 rB.length c3] 36)) from ((Below.refl _ _).alloc (Nat.le_refl _) _).alloc (by simp) _)
  by_cases he : sA = sB
  · rw [decide_eq_true he] at HS
    obtain ⟨b, hb⟩ : ∃ b, decide (rA = rB) = b := ⟨_, rfl⟩
    have HRE := Aside0.mk (show b = r by rw [← HRR.out, ← hb]; simp [he])
    have HBB := Aside0.mk hb
    clear he hb
    go_enter Tryd.func27, Tryd.ntmps27
    go_wp2_with fail
    refine (slices_Equal_int_int.calls _ A0 c0 sA A2 c2 sB _ _ (Kd.C_below HR0.out HB0.out) HC0.out (Kd.C_below HR2.out HB0.out) HC2.out HS.out).mono ?_
    rintro e w' ⟨rfl, ⟨⟨m, rfl⟩⟩⟩
    go_wp2_with fail
    refine (slices_EqualFunc.calls A1 c1 rA A3 c3 rB _ (Kd.C_below HR1.out (below_drewN HB0.out m)) (Kd.C_below HR3.out (below_drewN HB0.out m))).mono ?_
    rintro e w' ⟨rfl, ⟨⟨m2, rfl⟩⟩⟩
    rw [HBB.out]
    go_wp2
    go_ret
    exact ⟨ret_bool HRE.out, below_drewN HB0.out _⟩
  · rw [decide_eq_false he] at HS
    have HRE := Aside0.mk (show false = r by rw [← HRR.out]; simp [he])
    clear he
    go_enter Tryd.func27, Tryd.ntmps27
    go_wp2_with fail
    refine (slices_Equal_int_int.calls _ A0 c0 sA A2 c2 sB _ _ (Kd.C_below HR0.out HB0.out) HC0.out (Kd.C_below HR2.out HB0.out) HC2.out HS.out).mono ?_
    rintro e w' ⟨rfl, ⟨⟨m, rfl⟩⟩⟩
    go_wp2
    go_ret
    exact ⟨ret_bool HRE.out, below_drewN HB0.out m⟩

end Go.Proofs.YtgejnljpdfjgpaaDoor.Q
/- join.Agree, and pass.Settled's literal. Their conditions: what they are handed is read at the call; sizes. -/
namespace Go.Proofs.YtgejnljpdfjgpaaDoor.Q
open Go.RowKit Go.Proofs Go.Proofs.YtgejnljpdfjgpaaDoorW.PrintWords Go.Proofs.YtgejnljpdfjgpaaDoorW.PrintLast Go.Proofs.YtgejnljpdfjgpaaDoorW.PrintMore
set_option linter.unusedVariables false
set_option linter.unusedSimpArgs false

def agreeL (sA : List Int) (rA : List (List Int)) (sB : List Int) (rB : List (List Int)) : Bool := decide (projS sA sB = projS sB sA ∧ projR sA rA sB = projR sB rB sA)

set_option maxHeartbeats 2000000 in
set_option maxRecDepth 100000 in
theorem join_Agree.calls (A0 : Option Addr) (c0 : Nat) (sA : List Int) (A1 : Option Addr) (c1 : Nat) (rA : List (List Int)) (A2 : Option Addr) (c2 : Nat) (sB : List Int) (A3 : Option Addr) (c3 : Nat) (rB : List (List Int)) (w : World)
    (hr0 : Kd.C (Kd.int .i64) w A0 sA.length sA) (hc0 : sA.length ≤ c0) (hr1 : Kd.C (Kd.slice 3 (Kd.int .i64)) w A1 rA.length rA) (hc1 : rA.length ≤ c1) (hr2 : Kd.C (Kd.int .i64) w A2 sB.length sB) (hc2 : sB.length ≤ c2) (hr3 : Kd.C (Kd.slice 3 (Kd.int .i64)) w A3 rB.length rB) (hc3 : rB.length ≤ c3)
    (hl0 : sA.length < 17179869184) (hl1 : rA.length < 1099511627776) (hl2 : sB.length < 17179869184) (hl3 : rB.length < 1099511627776) :
    Calls Tryd.prog 16 #[.agg #[.slice A0 sA.length c0, .slice A1 rA.length c1], .agg #[.slice A2 sB.length c2, .slice A3 rB.length c3]] w fun e w' => e = .returned (.bool (agreeL sA rA sB rB)) ∧ Below w.heap.size w w' := by
  have HR0 := Aside0.mk (And.intro hr0 hc0)
  have HR1 := Aside0.mk (And.intro hr1 hc1)
  have HR2 := Aside0.mk (And.intro hr2 hc2)
  have HR3 := Aside0.mk (And.intro hr3 hc3)
  have HL0 := Aside0.mk (And.intro hl0 hl1)
  have HL2 := Aside0.mk (And.intro hl2 hl3)
  clear hr0 hc0 hr1 hc1 hr2 hc2 hr3 hc3 hl0 hl1 hl2 hl3
  go_enter Tryd.func16, Tryd.ntmps16
  go_wp2_with fail
  have hb0 : Below w.heap.size w ((w.alloc (.cells #[.slice A0 sA.length c0, .slice A1 rA.length c1] 36)).alloc (.cells #[.slice A2 sB.length c2, .slice A3 rB.length c3] 36)) := ((Below.refl _ _).alloc (Nat.le_refl _) _).alloc (by simp) _
  have hba : ((w.alloc (.cells #[.slice A0 sA.length c0, .slice A1 rA.length c1] 36)).alloc (.cells #[.slice A2 sB.length c2, .slice A3 rB.length c3] 36)).heap[w.heap.size]? = some (.cells #[.slice A0 sA.length c0, .slice A1 rA.length c1] 36 (0, 0)) := blk_alloc (heap_alloc_new w _) _
  have hbb : ((w.alloc (.cells #[.slice A0 sA.length c0, .slice A1 rA.length c1] 36)).alloc (.cells #[.slice A2 sB.length c2, .slice A3 rB.length c3] 36)).heap[w.heap.size + 1]? = some (.cells #[.slice A2 sB.length c2, .slice A3 rB.length c3] 36 (0, 0)) := by
    have := heap_alloc_new (w.alloc (.cells #[.slice A0 sA.length c0, .slice A1 rA.length c1] 36)) (.cells #[.slice A2 sB.length c2, .slice A3 rB.length c3] 36)
    simpa using this
  generalize (w.alloc (.cells #[.slice A0 sA.length c0, .slice A1 rA.length c1] 36)).alloc (.cells #[.slice A2 sB.length c2, .slice A3 rB.length c3] 36) = W0 at hb0 hba hbb ⊢
  have HB0 := Aside0.mk hb0
  have XS : Aside0 (∀ W, Below W0.heap.size W0 W → W.cell? ⟨w.heap.size, 0, none⟩ = some (.slice A0 sA.length c0) ∧ W.cell? ⟨w.heap.size, 1, none⟩ = some (.slice A1 rA.length c1) ∧ W.cell? ⟨w.heap.size + 1, 0, none⟩ = some (.slice A2 sB.length c2) ∧ W.cell? ⟨w.heap.size + 1, 1, none⟩ = some (.slice A3 rB.length c3) ∧ Aside0 (Below W0.heap.size W0 W)) := ⟨fun W h => ⟨(blk_cell (blk_below hba h) 0).trans rfl, (blk_cell (blk_below hba h) 1).trans rfl, (blk_cell (blk_below hbb h) 0).trans rfl, (blk_cell (blk_below hbb h) 1).trans rfl, ⟨h⟩⟩⟩
  clear hb0 hba hbb
  go_region_held3 (fun w' => w'.cell? ⟨w.heap.size, 0, none⟩ = some (.slice A0 sA.length c0) ∧ w'.cell? ⟨w.heap.size, 1, none⟩ = some (.slice A1 rA.length c1) ∧ w'.cell? ⟨w.heap.size + 1, 0, none⟩ = some (.slice A2 sB.length c2) ∧ w'.cell? ⟨w.heap.size + 1, 1, none⟩ = some (.slice A3 rB.length c3) ∧ Aside0 (Below W0.heap.size W0 w'))
    ((refine XS.out _ ?_; go_split_ands; first | exact below_drew (Below.refl _ _) | exact hk5.out | exact hk4.out | exact hk3.out))
    (first
      | (go_at_call 28; go_split_ands
         (with_reducible refine (rel_Project.calls A0 c0 sA A1 c1 rA A2 c2 sB _ ?a1 HR0.out.2 ?a2 HR1.out.2 ?a3 HL0.out.1 HL0.out.2 HL2.out.1).mono ?_)
         (case a1 => exact (Kd.C_below HR0.out.1 (below_step HB0.out ‹Aside0 (Below W0.heap.size W0 _)›.out)))
         (case a2 => exact (Kd.C_below HR1.out.1 (below_step HB0.out ‹Aside0 (Below W0.heap.size W0 _)›.out)))
         (case a3 => exact (Kd.C_below HR2.out.1 (below_step HB0.out ‹Aside0 (Below W0.heap.size W0 _)›.out)))
         rintro e w3 ⟨va, vb, rfl, ha, hb, hb3⟩
         have hk3 := Aside0.mk (below_step ‹Aside0 (Below W0.heap.size W0 _)›.out hb3)
         obtain ⟨Aa, ca, ea, la, ga⟩ := Kd.R_reads ha
         obtain ⟨Ab, cb, eb, lb, gb⟩ := Kd.S_reads hb
         subst ea eb
         have HA3 := Aside0.mk (And.intro la (And.intro ga (And.intro lb gb)))
         clear la ga lb gb ha hb hb3)
      | (go_at_call 28; go_split_ands
         (with_reducible refine (rel_Project.calls A2 c2 sB A3 c3 rB A0 c0 sA _ ?b1 HR2.out.2 ?b2 HR3.out.2 ?b3 HL2.out.1 HL2.out.2 HL0.out.1).mono ?_)
         (case b1 => exact (Kd.C_below HR2.out.1 (below_step HB0.out ‹Aside0 (Below W0.heap.size W0 _)›.out)))
         (case b2 => exact (Kd.C_below HR3.out.1 (below_step HB0.out ‹Aside0 (Below W0.heap.size W0 _)›.out)))
         (case b3 => exact (Kd.C_below HR0.out.1 (below_step HB0.out ‹Aside0 (Below W0.heap.size W0 _)›.out)))
         rintro e w4 ⟨vc, vd, rfl, ha, hb, hb4⟩
         have hk4 := Aside0.mk (below_step ‹Aside0 (Below W0.heap.size W0 _)›.out hb4)
         obtain ⟨Ac, cc, ea, la, ga⟩ := Kd.R_reads ha
         obtain ⟨Ad, cd, eb, lb, gb⟩ := Kd.S_reads hb
         subst ea eb
         have HA4 := Aside0.mk (And.intro (And.intro HA3.out.1 (And.intro (Kd.C_below HA3.out.2.1 hb4) (And.intro HA3.out.2.2.1 (Kd.C_below HA3.out.2.2.2 hb4)))) (And.intro la (And.intro ga (And.intro lb gb))))
         clear la ga lb gb ha hb hb4)
      | (go_at_call 27; go_split_ands
         refine (rel_Same.calls Aa ca (projS sA sB) Ab cb (projR sA rA sB) Ac cc (projS sB sA) Ad cd (projR sB rB sA) _ HA4.out.1.2.1 HA4.out.1.1 HA4.out.1.2.2.2 HA4.out.2.2.1 HA4.out.2.1 HA4.out.2.2.2.2).mono ?_
         rintro e w5 ⟨rfl, hb5⟩
         have hk5 := Aside0.mk (below_step ‹Aside0 (Below W0.heap.size W0 _)›.out hb5)
         clear hb5))
  all_goals go_split_ands
  all_goals go_wp2
  go_ret
  exact ⟨ret_bool (by unfold agreeL; rw [Bool.decide_and]), below_step HB0.out hk5.out⟩

def agreeS (a b : S36) : Bool := agreeL a.f0 a.f1 b.f0 b.f1

set_option maxHeartbeats 2000000 in
set_option maxRecDepth 100000 in
theorem pass_Settled_1.calls (i p B D : Nat) (b : Bool) (A : Option Addr) (c : Nat) (xs : List S36) (w : World) (hb : w.heap[B]? = some (.cells #[.bool b] 4 (0, 0))) (hd : w.heap[D]? = some (.cells #[.slice A xs.length c] 28 (0, 0)))
    (hC : Kd.C k36 w A xs.length xs) (hi : i < xs.length) (hp : p < xs.length) (hg : ∀ x ∈ xs, RelGood x) :
    Calls Tryd.prog 15 #[.int .i64 i, .int .i64 p, .pointer (some ⟨B, 0, none⟩), .pointer (some ⟨D, 0, none⟩)] w fun e w' => e = .returned (.tuple #[]) ∧ w'.heap[B]? = some (.cells #[.bool (b && agreeS (xs.getD i z36) (xs.getD p z36))] 4 (0, 0)) ∧ w.grownBy w' (some B) := by
  obtain ⟨ad, A0, c0, A1, c1, e1, xi0, xi1, li0, Ci0, li1, Ci1⟩ := at_T36 hC (i : Int) (by omega) (by omega)
  obtain ⟨ad', A2, c2, A3, c3, e2, xp0, xp1, lp0, Cp0, lp1, Cp1⟩ := at_T36 hC (p : Int) (by omega) (by omega)
  rw [e1] at e2
  injection e2 with e2
  subst e1 e2
  rw [Int.toNat_natCast] at xi0 xi1 xp0 xp1
  have hxi : xs[i]? = some (rd_T36 xs (i : Int)) := by simp [rd_T36, List.getElem?_eq_getElem hi]
  have hxp : xs[p]? = some (rd_T36 xs (p : Int)) := by simp [rd_T36, List.getElem?_eq_getElem hp]
  have HGI := Aside0.mk (hg _ (List.mem_of_getElem? hxi))
  have HGP := Aside0.mk (hg _ (List.mem_of_getElem? hxp))
  have HRI := Aside0.mk (show xs.getD i z36 = rd_T36 xs (i : Int) by rw [List.getD_eq_getElem?_getD, hxi]; rfl)
  have HRP := Aside0.mk (show xs.getD p z36 = rd_T36 xs (p : Int) by rw [List.getD_eq_getElem?_getD, hxp]; rfl)
  clear hxi hxp
  generalize rd_T36 xs (i : Int) = x at *
  generalize rd_T36 xs (p : Int) = y at *
  rw [HRI.out, HRP.out]
  have HI0 := Aside0.mk (And.intro Ci0 (And.intro li0 (And.intro Ci1 li1)))
  have HP0 := Aside0.mk (And.intro Cp0 (And.intro lp0 (And.intro Cp1 lp1)))
  have hi0 : (0 : Int) ≤ (i : Int) := by omega
  have hi1 : (i : Int) < (xs.length : Int) := by omega
  have hp0 : (0 : Int) ≤ (p : Int) := by omega
  have hp1 : (p : Int) < (xs.length : Int) := by omega
  have HHB := Aside0.mk hb
  have HHD := Aside0.mk hd
  have XS : Aside0 (∀ W, Below w.heap.size w W → W.cell? ⟨B, 0, none⟩ = some (.bool b) ∧ W.cell? ⟨D, 0, none⟩ = some (.slice (some ad) xs.length c) ∧ W.cell? (ad.add (i * 2)) = some (.slice A0 x.f0.length c0) ∧ W.cell? ⟨(ad.add (i * 2)).block, (ad.add (i * 2)).off + 1, none⟩ = some (.slice A1 x.f1.length c1) ∧ W.cell? (ad.add (p * 2)) = some (.slice A2 y.f0.length c2) ∧ W.cell? ⟨(ad.add (p * 2)).block, (ad.add (p * 2)).off + 1, none⟩ = some (.slice A3 y.f1.length c3) ∧ W.frozen? ⟨B, 0, none⟩ = false ∧ Aside0 (Below w.heap.size w W)) :=
    ⟨fun W h => ⟨(blk_cell (blk_below hb h) 0).trans rfl, (blk_cell (blk_below hd h) 0).trans rfl, (h.cell (World.block_lt_of_cell? w _ xi0)).trans xi0, (h.cell (World.block_lt_of_cell? w _ xi1)).trans xi1, (h.cell (World.block_lt_of_cell? w _ xp0)).trans xp0, (h.cell (World.block_lt_of_cell? w _ xp1)).trans xp1, blk_frozen (blk_below hb h) 0, ⟨h⟩⟩⟩
  clear Ci0 li0 Ci1 li1 Cp0 lp0 Cp1 lp1 hb hd xi0 xi1 xp0 xp1 hC hg hi hp HRI HRP
  cases b with
  | false =>
    obtain ⟨hbc, _, _, _, _, _, hbf, _⟩ := XS.out w (Below.refl _ _)
    go_enter Tryd.func15, Tryd.ntmps15
    go_wp2_with fail
    go_region
    all_goals go_end0
    all_goals exact ⟨rfl, blk_drew (blk_put HHB.out 0 (.bool false) rfl), (grown_setCell _ _ _ _).trans (grown_of_below (below_drew (Below.refl _ _)) _)⟩
  | true =>
    go_enter Tryd.func15, Tryd.ntmps15
    go_wp2_with fail
    obtain ⟨hbc, hdc, hi2, hi3, hp2, hp3, hbf, _⟩ := XS.out w (Below.refl _ _)
    go_region_law
      (first
        | (go_simp; go_at_call 16
           refine (join_Agree.calls A0 c0 x.f0 A1 c1 x.f1 A2 c2 y.f0 A3 c3 y.f1 _ (Kd.C_below HI0.out.1 (below_drew (Below.refl _ _))) HI0.out.2.1 (Kd.C_below HI0.out.2.2.1 (below_drew (Below.refl _ _))) HI0.out.2.2.2 (Kd.C_below HP0.out.1 (below_drew (Below.refl _ _))) HP0.out.2.1 (Kd.C_below HP0.out.2.2.1 (below_drew (Below.refl _ _))) HP0.out.2.2.2 HGI.out.sch HGI.out.rows HGP.out.sch HGP.out.rows).mono ?_
           rintro e w5 ⟨rfl, hb5⟩
           have HB5 := Aside0.mk (below_step (below_drew (Below.refl w.heap.size w)) hb5)
           have hbc5 := (blk_cell (blk_below HHB.out HB5.out) 0).trans rfl
           have hbf5 := blk_frozen (blk_below HHB.out HB5.out) 0
           clear hb5
           go_wp2_with fail))
    all_goals go_end0
    all_goals exact ⟨rfl, blk_put (blk_below HHB.out HB5.out) 0 (.bool (agreeL x.f0 x.f1 y.f0 y.f1)) rfl, (grown_of_below HB5.out _).trans (grown_setCell _ _ _ _)⟩

end Go.Proofs.YtgejnljpdfjgpaaDoor.Q
/- pass.Settled: do all agree with their parents? Its conditions: the tree and the relations are read at the call; as many relations as bags; the order; sizes. -/
namespace Go.Proofs.YtgejnljpdfjgpaaDoor.Q
open Go.RowKit Go.Proofs Go.Proofs.YtgejnljpdfjgpaaDoorW.PrintWords Go.Proofs.YtgejnljpdfjgpaaDoorW.PrintLast Go.Proofs.YtgejnljpdfjgpaaDoorW.PrintMore
set_option linter.unusedVariables false
set_option linter.unusedSimpArgs false

def allAgree (xs : List S36) (steps : List (Int × Int)) : Bool := steps.all fun s => agreeS (xs.getD s.1.toNat z36) (xs.getD s.2.toNat z36)
theorem allAgree_snoc (xs : List S36) (ps : List (Int × Int)) (s : Int × Int) : allAgree xs (ps ++ [s]) = (allAgree xs ps && agreeS (xs.getD s.1.toNat z36) (xs.getD s.2.toNat z36)) := by
  unfold allAgree
  rw [List.all_append]
  simp

set_option maxHeartbeats 2000000 in
set_option maxRecDepth 100000 in
theorem pass_Settled.calls (kf : Nat) (A0 : Option Addr) (c0 : Nat) (bags : List (List Int)) (A1 : Option Addr) (c1 : Nat) (par : List Int) (A2 : Option Addr) (c2 : Nat) (xs : List S36) (L : List Int) (w : World)
    (hr0 : Kd.C (Kd.slice 3 (Kd.int .i64)) w A0 bags.length bags) (hc0 : bags.length ≤ c0) (hr1 : Kd.C (Kd.int .i64) w A1 par.length par) (hc1 : par.length ≤ c1) (hr2 : Kd.C k36 w A2 xs.length xs)
    (hlen : xs.length = bags.length) (hL0 : place_After.f kf bags par = some L) (hLi : ∀ i ∈ L, 0 ≤ i ∧ i < par.length) (hst : ∀ s ∈ stepsOf par L, 0 ≤ s.1 ∧ s.1.toNat < xs.length ∧ 0 ≤ s.2 ∧ s.2.toNat < xs.length)
    (hgood : ∀ x ∈ xs, RelGood x) :
    Calls Tryd.prog 8 #[.agg #[.slice A0 bags.length c0, .slice A1 par.length c1], .slice A2 xs.length c2] w fun e w' => e = .returned (.bool (allAgree xs (stepsOf par L))) ∧ Below w.heap.size w w' := by
  have HR0 := Aside0.mk hr0
  have HC0 := Aside0.mk hc0
  have HR1 := Aside0.mk hr1
  have HC1 := Aside0.mk hc1
  have HR2 := Aside0.mk hr2
  have HL0 := Aside0.mk hL0
  have HLI := Aside0.mk hLi
  have HST := Aside0.mk hst
  have HGO := Aside0.mk hgood
  have hq2 : ((xs.length : Int) == (bags.length : Int)) = true := by rw [beq_iff_eq]; omega
  have hq : decide ((xs.length : Int) = (bags.length : Int)) = true := decide_eq_true (by omega)
  have hq3 : decide (xs.length = bags.length) = true := decide_eq_true (by omega)
  have hm0 : xs.length ≤ 9223372036854775807 := Kd.C_max hr2
  clear hr0 hc0 hr1 hc1 hr2 hL0 hLi hst hgood hlen
  go_enter Tryd.func8, Tryd.ntmps8
  go_wp2_with fail
  have hb0 : Below w.heap.size w (((w.alloc (.cells #[.slice A0 bags.length c0, .slice A1 par.length c1] 27)).alloc (.cells #[.slice A2 xs.length c2] 28)).alloc (.cells #[.bool true] 4)) := (((Below.refl _ _).alloc (Nat.le_refl _) _).alloc (by simp) _).alloc (by simp; omega) _
  have hbd : (((w.alloc (.cells #[.slice A0 bags.length c0, .slice A1 par.length c1] 27)).alloc (.cells #[.slice A2 xs.length c2] 28)).alloc (.cells #[.bool true] 4)).heap[w.heap.size + 1]? = some (.cells #[.slice A2 xs.length c2] 28 (0, 0)) := blk_alloc (by
    have := heap_alloc_new (w.alloc (.cells #[.slice A0 bags.length c0, .slice A1 par.length c1] 27)) (.cells #[.slice A2 xs.length c2] 28)
    simpa using this) _
  have hbb : (((w.alloc (.cells #[.slice A0 bags.length c0, .slice A1 par.length c1] 27)).alloc (.cells #[.slice A2 xs.length c2] 28)).alloc (.cells #[.bool true] 4)).heap[w.heap.size + 2]? = some (.cells #[.bool true] 4 (0, 0)) := by
    have := heap_alloc_new ((w.alloc (.cells #[.slice A0 bags.length c0, .slice A1 par.length c1] 27)).alloc (.cells #[.slice A2 xs.length c2] 28)) (.cells #[.bool true] 4)
    simpa using this
  have hsz : (((w.alloc (.cells #[.slice A0 bags.length c0, .slice A1 par.length c1] 27)).alloc (.cells #[.slice A2 xs.length c2] 28)).alloc (.cells #[.bool true] 4)).heap.size = w.heap.size + 3 := by simp
  generalize ((w.alloc (.cells #[.slice A0 bags.length c0, .slice A1 par.length c1] 27)).alloc (.cells #[.slice A2 xs.length c2] 28)).alloc (.cells #[.bool true] 4) = W2 at hb0 hbd hbb hsz ⊢
  have HB2 := Aside0.mk hb0
  simp only [World.size_alloc, Nat.add_assoc, Nat.reduceAdd]
  refine (pass_edges.calls kf 0 A0 c0 bags A1 c1 par false 15 #[.pointer (some ⟨w.heap.size + 2, 0, none⟩), .pointer (some ⟨w.heap.size + 1, 0, none⟩)] L L (w.heap.size + 2) W2 (Kd.C_below HR0.out HB2.out) HC0.out (Kd.C_below HR1.out HB2.out) HC1.out HL0.out (by simp) HLI.out (by omega)
    (fun W hW => Kd.C_below HR1.out (pw_below_grown HB2.out (some (w.heap.size + 2)) HB2.out.size hW (fun k hk => by cases hk; omega))) (fun _ _ => rfl)
    (fun ps W => W.heap[w.heap.size + 2]? = some (.cells #[.bool (allAgree xs ps)] 4 (0, 0)) ∧ W.heap[w.heap.size + 1]? = some (.cells #[.slice A2 xs.length c2] 28 (0, 0)) ∧ Below w.heap.size w W)
    ⟨hbb, hbd, HB2.out⟩
    (fun ps W W' hI hb => ⟨blk_below hI.1 hb, blk_below hI.2.1 hb, below_step hI.2.2 hb⟩)
    (fun ps W i p hI hgr hpre hmem => by
      obtain ⟨h1, h2, h3⟩ := hI
      obtain ⟨a1, a2, a3, a4⟩ := HST.out _ hmem
      obtain ⟨i, rfl⟩ := Int.eq_ofNat_of_zero_le a1
      obtain ⟨p, rfl⟩ := Int.eq_ofNat_of_zero_le a3
      have a2 : i < xs.length := a2
      have a4 : p < xs.length := a4
      refine (pass_Settled_1.calls i p (w.heap.size + 2) (w.heap.size + 1) (allAgree xs ps) A2 c2 xs W h1 h2 (Kd.C_below HR2.out h3) a2 a4 HGO.out).mono ?_
      rintro e W' ⟨rfl, h4, h5⟩
      refine ⟨rfl, ⟨by rw [allAgree_snoc]; exact h4, blk_grown h2 h5 (fun e => by injection e; omega), pw_below_grown h3 (some (w.heap.size + 2)) h3.size h5 (fun k hk => by cases hk; omega)⟩, h5⟩)).mono ?_
  rintro e w3 ⟨rfl, ⟨h1, h2, h3⟩, h5⟩
  have hcc := (blk_cell h1 0).trans rfl
  have H3 := Aside0.mk h3
  clear h1 h2 h3 h5 hbd hbb hsz hb0
  go_wp2
  go_ret
  exact ⟨rfl, H3.out⟩

end Go.Proofs.YtgejnljpdfjgpaaDoor.Q
/- law16's shown: the small case works. Its condition: strconv's table reads as it was laid. -/
namespace Go.Proofs.YtgejnljpdfjgpaaDoor.Q
open Go.RowKit Go.Proofs Go.Lib Go.Proofs.YtgejnljpdfjgpaaDoorW.PrintWords Go.Proofs.YtgejnljpdfjgpaaDoorW.PrintLast Go.Proofs.YtgejnljpdfjgpaaDoorW.PrintMore
set_option linter.unusedVariables false
set_option linter.unusedSimpArgs false

/-! #### blocks, one behind the other -/
def allocs (w : World) (os : List Obj) : World := os.foldl (fun w o => w.alloc o) w
theorem allocs_size (os : List Obj) : ∀ w : World, (allocs w os).heap.size = w.heap.size + os.length := by
  induction os with
  | nil => simp [allocs]
  | cons o os ih =>
    intro w
    have := ih (w.alloc o)
    simp only [World.size_alloc] at this
    show (allocs (w.alloc o) os).heap.size = _
    rw [this, List.length_cons]
    omega
theorem allocs_below (os : List Obj) : ∀ w : World, Below w.heap.size w (allocs w os) := by
  induction os with
  | nil => exact fun w => Below.refl _ _
  | cons o os ih => exact fun w => ((Below.refl w.heap.size w).alloc (Nat.le_refl _) o).trans ((ih (w.alloc o)).mono (by simp))
theorem allocs_get (os : List Obj) : ∀ (w : World) (i : Nat) (o : Obj), os[i]? = some o → (allocs w os).heap[w.heap.size + i]? = some o := by
  induction os with
  | nil => intro w i o h; simp at h
  | cons a os ih =>
    intro w i o h
    cases i with
    | zero =>
      obtain rfl : a = o := by simpa using h
      exact ((allocs_below os (w.alloc a)).block _ (by simp)).trans (heap_alloc_new w a)
    | succ i =>
      have := ih (w.alloc a) i o (by simpa using h)
      rw [World.size_alloc, Nat.add_assoc, Nat.add_comm 1 i] at this
      exact this

theorem C_int_blk {W : World} {b : Nat} {xs : List Int} (h : W.heap[b]? = some (.cells (xs.map (Value.int .i64)).toArray 3 (0, 0))) (hl : xs.length ≤ maxLen) : Kd.C (Kd.int .i64) W (some ⟨b, 0, none⟩) xs.length xs := by
  refine ⟨rfl, hl, fun _ => ⟨⟨b, 0, none⟩, rfl, fun j p hp => ⟨[.int .i64 p], rfl, rfl, fun i u hu => ?_⟩⟩⟩
  have hsz : (Kd.int .i64).sz = 1 := rfl
  match i, hu with
  | 0, hu => simp at hu; subst hu; rw [hsz, add0]; exact (blk_cell h _).trans (by simp [hp])
  | n + 1, hu => simp at hu
theorem C_rows_blk {W : World} {b : Nat} {es : List El} (h : W.heap[b]? = some (.cells (es.map (·.1)).toArray 25 (0, 0))) (hl : es.length ≤ maxLen) (he : ∀ p ∈ es, ElR W p) : Kd.C (Kd.slice 3 (Kd.int .i64)) W (some ⟨b, 0, none⟩) es.length (es.map (·.2)) := by
  refine ⟨by simp, hl, fun _ => ⟨⟨b, 0, none⟩, rfl, fun j p hp => ?_⟩⟩
  rw [List.getElem?_map] at hp
  obtain ⟨q, hq, rfl⟩ := Option.map_eq_some_iff.1 hp
  obtain ⟨A1, c1, e1, l1, g1⟩ := he q (List.mem_of_getElem? hq)
  refine ⟨[q.1], rfl, ⟨A1, c1, by rw [e1], l1, g1⟩, fun i u hu => ?_⟩
  have hsz : (Kd.slice 3 (Kd.int .i64)).sz = 1 := rfl
  match i, hu with
  | 0, hu => simp at hu; subst hu; rw [hsz, add0]; exact (blk_cell h _).trans (by simp [hq])
  | n + 1, hu => simp at hu
theorem C_rels_blk {W : World} {b : Nat} {rs : List RelV} (h : W.heap[b]? = some (.cells (relCells rs).toArray 36 (0, 0))) (hl : rs.length ≤ maxLen) (he : ∀ r ∈ rs, RelR W r) : k36.C W (some ⟨b, 0, none⟩) rs.length (rs.map (·.2.2)) := by
  refine ⟨by simp, hl, fun _ => ⟨⟨b, 0, none⟩, rfl, fun j p hp => ?_⟩⟩
  rw [List.getElem?_map] at hp
  obtain ⟨q, hq, rfl⟩ := Option.map_eq_some_iff.1 hp
  obtain ⟨⟨A1, c1, e1, l1, g1⟩, ⟨A2, c2, e2, l2, g2⟩⟩ := he q (List.mem_of_getElem? hq)
  obtain ⟨k1, k2⟩ := relCells_get rs j q hq
  refine ⟨[q.1, q.2.1], rfl, ?_, fun i u hu => ?_⟩
  · have e1 : q.1 = .slice A1 q.2.2.f0.length c1 := e1
    rw [e1, e2]
    exact k36_mk W q.2.2 l1 g1 l2 g2
  · have hsz : k36.sz = 2 := rfl
    rw [hsz]
    match i, hu with
    | 0, hu => simp at hu; subst hu; rw [add0]; exact (blk_cell h _).trans (by simpa using k1)
    | 1, hu => simp at hu; subst hu; rw [add0]; exact (blk_cell h _).trans (by simpa using k2)
    | n + 2, hu => simp at hu

/-! #### the small case, in plain lists -/
def shA : S36 := ⟨[0], [[1], [2]]⟩
def shB : S36 := ⟨[0, 1], [[2, 5], [3, 5]]⟩
theorem meet_a : meetL [0] [0, 1] = [0] := by simp [meetL, mergeL]
theorem meet_b : meetL [0, 1] [0] = [0] := by simp [meetL, mergeL]
theorem sh_up : upL [shA, shB] [(1, 0)] = [⟨[0], [[2]]⟩, shB] := by
  simp [upL, semiAt, semiS, semiL, shA, shB, meet_a, placesL, placeOf, pickL, rd]
theorem sh_down : downL [⟨[0], [[2]]⟩, shB] [(1, 0)] = [⟨[0], [[2]]⟩, ⟨[0, 1], [[2, 5]]⟩] := by
  simp [downL, semiAt, semiS, semiL, shB, meet_b, placesL, placeOf, pickL, rd, List.idxOf_cons]
theorem sort_a : sortI [0] = [0] := by unfold sortI; exact List.mergeSort_of_pairwise (by simp)
theorem sort_b : sortI [0, 1] = [0, 1] := by unfold sortI; exact List.mergeSort_of_pairwise (by simp)
theorem vars_a : varsU [0] = [0] := by unfold varsU; rw [sort_a]; decide
theorem vars_b : varsU [0, 1] = [0, 1] := by unfold varsU; rw [sort_b]; decide
theorem sh_yes : allAgree [⟨[0], [[2]]⟩, ⟨[0, 1], [[2, 5]]⟩] [(1, 0)] = true := by
  simp [allAgree, agreeS, agreeL, projS, projR, vars_a, vars_b, meet_a, meet_b, cutRows, placesL, placeOf, pickL, rd, sortU, insU]
theorem sh_no : allAgree [shA, shB] [(1, 0)] = false := by
  simp [allAgree, agreeS, agreeL, projS, projR, vars_a, vars_b, meet_a, meet_b, cutRows, placesL, placeOf, pickL, rd, sortU, insU, shA, shB, cmpL]
theorem sh_after : place_After.f 60 [[0], [0, 1]] [-1, 0] = some [1, 0] := by decide +kernel
theorem sh_reverse : slices_Reverse_int_int.f 60 [1, 0] = some [0, 1] := by decide +kernel
theorem sh_steps0 : stepsOf [-1, 0] [1, 0] = [(1, 0)] := by decide +kernel
theorem sh_steps1 : stepsOf [-1, 0] [0, 1] = [(1, 0)] := by decide +kernel
theorem two_rels {ra : List RelEl} {x y : S36} (h : ra.map relOf = [x, y]) : ∃ r0 r1, ra = [r0, r1] ∧ relOf r0 = x ∧ relOf r1 = y := by
  match ra, h with
  | [r0, r1], h => simp at h; exact ⟨r0, r1, rfl, h.1, h.2⟩
theorem sh_good : ∀ x ∈ [shA, shB], RelGood x := by
  intro x hx
  simp at hx
  rcases hx with rfl | rfl
  · exact ⟨by simp [shA], by simp [shA], by simp [shA], by simp [shA, in64]⟩
  · exact ⟨by simp [shB], by simp [shB], by simp [shB], by simp [shB, in64]⟩

set_option maxHeartbeats 1000000 in
set_option maxRecDepth 100000 in
theorem pass_Down.refuses (A0 : Option Addr) (n0 c0 : Nat) (A1 : Option Addr) (n1 c1 : Nat) (A2 : Option Addr) (n2 c2 : Nat) (w : World) (hne : n2 ≠ n0) :
    Calls Tryd.prog 10 #[.agg #[.slice A0 n0 c0, .slice A1 n1 c1], .slice A2 n2 c2] w fun e w' => e = .returned (.tuple #[.slice none 0 0, .int .i64 1]) ∧ Below w.heap.size w w' := by
  have hq2 : ((n2 : Int) == (n0 : Int)) = false := by simp; omega
  have hq : decide ((n2 : Int) = (n0 : Int)) = false := decide_eq_false (by omega)
  have hq3 : decide (n2 = n0) = false := decide_eq_false hne
  clear hne
  go_enter Tryd.func10, Tryd.ntmps10
  go_wp2
  go_ret2
  exact ⟨rfl, ((Below.refl _ _).alloc (Nat.le_refl _) _).alloc (by simp) _⟩

def shObjs (n : Nat) : List Obj := [.cells #[.int .i64 0] 3, .cells #[.int .i64 0, .int .i64 1] 3, .cells #[.slice (some ⟨n, 0, none⟩) 1 1, .slice (some ⟨n + 1, 0, none⟩) 2 2] 25, .cells #[.int .i64 (-1), .int .i64 0] 3, .cells #[.slice (some ⟨n + 2, 0, none⟩) 2 2, .slice (some ⟨n + 3, 0, none⟩) 2 2] 27,
    .cells #[.int .i64 0] 3, .cells #[.int .i64 1] 3, .cells #[.int .i64 2] 3, .cells #[.slice (some ⟨n + 6, 0, none⟩) 1 1, .slice (some ⟨n + 7, 0, none⟩) 1 1] 25, .cells #[.int .i64 0, .int .i64 1] 3, .cells #[.int .i64 2, .int .i64 5] 3, .cells #[.int .i64 3, .int .i64 5] 3,
    .cells #[.slice (some ⟨n + 10, 0, none⟩) 2 2, .slice (some ⟨n + 11, 0, none⟩) 2 2] 25, .cells #[.slice (some ⟨n + 5, 0, none⟩) 1 1, .slice (some ⟨n + 8, 0, none⟩) 2 2, .slice (some ⟨n + 9, 0, none⟩) 2 2, .slice (some ⟨n + 12, 0, none⟩) 2 2] 36]

set_option maxHeartbeats 2000000 in
set_option maxRecDepth 100000 in
theorem law16_shown.calls (w : World) (hT : TabOk w) :
    Calls Tryd.prog 5 #[] w fun e w' => e = .returned (.bool true) ∧ Below w.heap.size w w' := by
  have HT := Aside0.mk hT
  clear hT
  go_enter Tryd.func5, Tryd.ntmps5
  go_wp2_with fail
  simp only [Nat.add_assoc, Nat.reduceAdd]
  change Calls _ _ _ (allocs w (shObjs w.heap.size)) _
  have hB0 : Below w.heap.size w (allocs w (shObjs w.heap.size)) := allocs_below _ _
  have hget : ∀ i o, (shObjs w.heap.size)[i]? = some o → (allocs w (shObjs w.heap.size)).heap[w.heap.size + i]? = some o := fun i o h => allocs_get _ w i o h
  have g0 := hget 0 _ rfl
  have g1 := hget 1 _ rfl
  have g2 := hget 2 _ rfl
  have g3 := hget 3 _ rfl
  have g4 := hget 4 _ rfl
  have g5 := hget 5 _ rfl
  have g6 := hget 6 _ rfl
  have g7 := hget 7 _ rfl
  have g8 := hget 8 _ rfl
  have g9 := hget 9 _ rfl
  have g10 := hget 10 _ rfl
  have g11 := hget 11 _ rfl
  have g12 := hget 12 _ rfl
  have g13 := hget 13 _ rfl
  rw [Nat.add_zero] at g0
  clear hget
  generalize allocs w (shObjs w.heap.size) = W0 at *
  have i0 := C_int_blk (xs := [0]) g0 (by decide)
  have i1 := C_int_blk (xs := [0, 1]) g1 (by decide)
  have i3 := C_int_blk (xs := [-1, 0]) g3 (by decide)
  have i5 := C_int_blk (xs := [0]) g5 (by decide)
  have i6 := C_int_blk (xs := [1]) g6 (by decide)
  have i7 := C_int_blk (xs := [2]) g7 (by decide)
  have i9 := C_int_blk (xs := [0, 1]) g9 (by decide)
  have i10 := C_int_blk (xs := [2, 5]) g10 (by decide)
  have i11 := C_int_blk (xs := [3, 5]) g11 (by decide)
  have r2 := C_rows_blk (es := [(.slice (some ⟨w.heap.size, 0, none⟩) 1 1, [0]), (.slice (some ⟨w.heap.size + 1, 0, none⟩) 2 2, [0, 1])]) g2 (by simp [maxLen]) (by
    intro p hp
    simp at hp
    rcases hp with rfl | rfl
    · exact ⟨_, _, rfl, Nat.le_refl _, i0⟩
    · exact ⟨_, _, rfl, Nat.le_refl _, i1⟩)
  have r8 := C_rows_blk (es := [(.slice (some ⟨w.heap.size + 6, 0, none⟩) 1 1, [1]), (.slice (some ⟨w.heap.size + 7, 0, none⟩) 1 1, [2])]) g8 (by simp [maxLen]) (by
    intro p hp
    simp at hp
    rcases hp with rfl | rfl
    · exact ⟨_, _, rfl, Nat.le_refl _, i6⟩
    · exact ⟨_, _, rfl, Nat.le_refl _, i7⟩)
  have r12 := C_rows_blk (es := [(.slice (some ⟨w.heap.size + 10, 0, none⟩) 2 2, [2, 5]), (.slice (some ⟨w.heap.size + 11, 0, none⟩) 2 2, [3, 5])]) g12 (by simp [maxLen]) (by
    intro p hp
    simp at hp
    rcases hp with rfl | rfl
    · exact ⟨_, _, rfl, Nat.le_refl _, i10⟩
    · exact ⟨_, _, rfl, Nat.le_refl _, i11⟩)
  have s13 := C_rels_blk (rs := [(.slice (some ⟨w.heap.size + 5, 0, none⟩) 1 1, .slice (some ⟨w.heap.size + 8, 0, none⟩) 2 2, shA), (.slice (some ⟨w.heap.size + 9, 0, none⟩) 2 2, .slice (some ⟨w.heap.size + 12, 0, none⟩) 2 2, shB)]) g13 (by simp [maxLen]) (by
    intro r hr
    simp at hr
    rcases hr with rfl | rfl
    · exact ⟨⟨_, _, rfl, Nat.le_refl _, i5⟩, ⟨_, _, rfl, Nat.le_refl _, r8⟩⟩
    · exact ⟨⟨_, _, rfl, Nat.le_refl _, i9⟩, ⟨_, _, rfl, Nat.le_refl _, r12⟩⟩)
  have HB0 := Aside0.mk hB0
  have HR2 := Aside0.mk r2
  have HI3 := Aside0.mk i3
  have HS13 := Aside0.mk s13
  have HG4 := Aside0.mk g4
  have XS : Aside0 (∀ W, Below W0.heap.size W0 W → W.cell? ⟨w.heap.size + 4, 0, none⟩ = some (.slice (some ⟨w.heap.size + 2, 0, none⟩) 2 2) ∧ W.cell? ⟨w.heap.size + 4, 1, none⟩ = some (.slice (some ⟨w.heap.size + 3, 0, none⟩) 2 2)) := ⟨fun W h => ⟨(blk_cell (blk_below g4 h) 0).trans rfl, (blk_cell (blk_below g4 h) 1).trans rfl⟩⟩
  have hin : ∀ i ∈ ([1, 0] : List Int), 0 ≤ i ∧ i < (([-1, 0] : List Int).length : Int) := by decide
  have hin2 : ∀ i ∈ ([0, 1] : List Int), 0 ≤ i ∧ i < (([-1, 0] : List Int).length : Int) := by decide
  have hst0 : ∀ s ∈ stepsOf [-1, 0] [1, 0], 0 ≤ s.1 ∧ s.1.toNat < [shA, shB].length ∧ 0 ≤ s.2 ∧ s.2.toNat < [shA, shB].length := by rw [sh_steps0]; decide
  have hst1 : ∀ s ∈ stepsOf [-1, 0] [0, 1], 0 ≤ s.1 ∧ s.1.toNat < [shA, shB].length ∧ 0 ≤ s.2 ∧ s.2.toNat < [shA, shB].length := by rw [sh_steps1]; decide
  have HUP := Aside0.mk (fun (W : World) (hW : Below W0.heap.size W0 W) => pass_Up.calls 60 60 (some ⟨w.heap.size + 2, 0, none⟩) 2 [[0], [0, 1]] (some ⟨w.heap.size + 3, 0, none⟩) 2 [-1, 0] (some ⟨w.heap.size + 13, 0, none⟩) 2 [shA, shB] [1, 0] [1, 0] W (Kd.C_below r2 hW) (Nat.le_refl _) (Kd.C_below i3 hW) (Nat.le_refl _) (Kd.C_below s13 hW) rfl (by decide) sh_after rfl hin hst0 sh_good (HT.out.on (below_step hB0 hW)))
  have HRE := Aside0.mk (fun (W : World) (hW : Below W0.heap.size W0 W) => pass_Reduce.calls 60 60 (some ⟨w.heap.size + 2, 0, none⟩) 2 [[0], [0, 1]] (some ⟨w.heap.size + 3, 0, none⟩) 2 [-1, 0] (some ⟨w.heap.size + 13, 0, none⟩) 2 [shA, shB] [1, 0] [0, 1] W (Kd.C_below r2 hW) (Nat.le_refl _) (Kd.C_below i3 hW) (Nat.le_refl _) (Kd.C_below s13 hW) rfl (by decide) sh_after sh_reverse hin hin2 hst0 hst1 sh_good (HT.out.on (below_step hB0 hW)))
  have HSN := Aside0.mk (fun (W : World) (hW : Below W0.heap.size W0 W) => pass_Settled.calls 60 (some ⟨w.heap.size + 2, 0, none⟩) 2 [[0], [0, 1]] (some ⟨w.heap.size + 3, 0, none⟩) 2 [-1, 0] (some ⟨w.heap.size + 13, 0, none⟩) 2 [shA, shB] [1, 0] W (Kd.C_below r2 hW) (Nat.le_refl _) (Kd.C_below i3 hW) (Nat.le_refl _) (Kd.C_below s13 hW) rfl sh_after hin hst0 sh_good)
  clear g0 g1 g2 g3 g4 g5 g6 g7 g8 g9 g10 g11 g12 g13 i0 i1 i3 i5 i6 i7 i9 i10 i11 r2 r8 r12 s13 hB0 hin hin2 hst0 hst1
  refine (HUP.out W0 (Below.refl _ _)).mono ?_
  rintro e w1 ⟨ga, ra, rfl, hra, hma, hb1⟩
  have hra' : RelsAt w1 W0.heap.size ga ra := hra
  rw [sh_steps0, sh_up] at hma
  obtain ⟨a0, a1, rfl, ea0, ea1⟩ := two_rels hma
  have ca0 := (hra'.cell (i := 0) (r := a0) rfl).2.1
  have ca1 := (hra'.cell (i := 1) (r := a1) rfl).2.1
  obtain ⟨_, _, Aa0, ka0, _, fa0, _, _, _, _⟩ := relOf_reads (hra'.own a0 (by simp))
  obtain ⟨_, _, Aa1, ka1, _, fa1, _, _, _, _⟩ := relOf_reads (hra'.own a1 (by simp))
  rw [fa0, ea0] at ca0
  rw [fa1, ea1] at ca1
  have CA : Aside0 (∀ W, Below w1.heap.size w1 W → W.cell? ⟨ga, 1, none⟩ = some (.slice Aa0 1 ka0) ∧ W.cell? ⟨ga, 3, none⟩ = some (.slice Aa1 2 ka1)) := ⟨fun W h => ⟨(h.cell (World.block_lt_of_cell? w1 _ ca0)).trans ca0, (h.cell (World.block_lt_of_cell? w1 _ ca1)).trans ca1⟩⟩
  have HB1 := Aside0.mk hb1
  clear hra hra' hma ea0 ea1 ca0 ca1 fa0 fa1 hb1
  simp only [List.length_cons, List.length_nil, Nat.zero_add, Nat.reduceAdd]
  obtain ⟨t10, t11⟩ := XS.out _ HB1.out
  go_wp2_with fail
  refine (HRE.out w1 HB1.out).mono ?_
  rintro e w2 ⟨gb, rb, rfl, hrb, hmb, hb2⟩
  rw [sh_steps0, sh_steps1, sh_up, sh_down] at hmb
  have hC := hrb.reads
  rw [hmb] at hC
  have hrl : rb.length = 2 := by have := congrArg List.length hmb; simpa using this
  rw [hrl] at hC
  have HSB := Aside0.mk (fun (W : World) (hW : Below w2.heap.size w2 W) (hW0 : Below W0.heap.size W0 W) => pass_Settled.calls 60 (some ⟨w.heap.size + 2, 0, none⟩) 2 [[0], [0, 1]] (some ⟨w.heap.size + 3, 0, none⟩) 2 [-1, 0] (some ⟨gb, 0, none⟩) 2 [⟨[0], [[2]]⟩, ⟨[0, 1], [[2, 5]]⟩] [1, 0] W (Kd.C_below HR2.out hW0) (Nat.le_refl _) (Kd.C_below HI3.out hW0) (Nat.le_refl _) (Kd.C_below hC hW) rfl sh_after (by decide) (by rw [sh_steps0]; decide) (by
    intro x hx
    simp at hx
    rcases hx with rfl | rfl
    · exact ⟨by simp, by simp, by simp, by simp [in64]⟩
    · exact ⟨by simp, by simp, by simp, by simp [in64]⟩))
  obtain ⟨b0, b1, rfl, eb0, eb1⟩ := two_rels hmb
  have cb1 := (hrb.cell (i := 1) (r := b1) rfl).2.1
  obtain ⟨_, _, Ab1, kb1, _, fb1, _, _, _, _⟩ := relOf_reads (hrb.own b1 (by simp))
  rw [fb1, eb1] at cb1
  have CB : Aside0 (∀ W, Below w2.heap.size w2 W → W.cell? ⟨gb, 3, none⟩ = some (.slice Ab1 1 kb1)) := ⟨fun W h => (h.cell (World.block_lt_of_cell? w2 _ cb1)).trans cb1⟩
  have HB2 := Aside0.mk hb2
  have HB02 := Aside0.mk (below_step HB1.out hb2)
  clear hrb hmb eb0 eb1 cb1 fb1 hb2 hC hrl t10 t11
  simp only [List.length_cons, List.length_nil, Nat.zero_add, Nat.reduceAdd]
  obtain ⟨t10, t11⟩ := XS.out _ HB02.out
  go_wp2_with fail
  refine (pass_Down.refuses (some ⟨w.heap.size + 2, 0, none⟩) 2 2 (some ⟨w.heap.size + 3, 0, none⟩) 2 2 none 0 0 w2 (by decide)).mono ?_
  rintro e w3 ⟨rfl, hb3⟩
  have HB3 := Aside0.mk hb3
  have HB03 := Aside0.mk (below_step HB02.out hb3)
  clear hb3 t10 t11
  obtain ⟨t10, t11⟩ := XS.out _ HB03.out
  obtain ⟨ca0, ca1⟩ := CA.out _ (below_step HB2.out HB3.out)
  have cb1 := CB.out _ HB3.out
  go_wp2_with fail
  refine (HSB.out w3 HB3.out HB03.out).mono ?_
  rintro e w4 ⟨rfl, hb4⟩
  rw [sh_steps0, sh_yes]
  have HB04 := Aside0.mk (below_step HB03.out hb4)
  clear hb4 t10 t11 ca0 ca1 cb1
  obtain ⟨t10, t11⟩ := XS.out _ HB04.out
  go_wp2_with fail
  refine (HSN.out w4 HB04.out).mono ?_
  rintro e w5 ⟨rfl, hb5⟩
  rw [sh_steps0, sh_no]
  have HB05 := Aside0.mk (below_step HB04.out hb5)
  clear hb5 t10 t11
  go_wp2
  go_ret
  exact ⟨rfl, below_step HB0.out HB05.out⟩

end Go.Proofs.YtgejnljpdfjgpaaDoor.Q
/- PassNone's walk: at any parts it answers true. Its conditions: the parts are read at the call; strconv's table reads as it was laid. -/
namespace Go.Proofs.YtgejnljpdfjgpaaDoor.Q
open Go.RowKit Go.Proofs Go.Proofs.YtgejnljpdfjgpaaDoorW.PrintWords Go.Proofs.YtgejnljpdfjgpaaDoorW.PrintLast Go.Proofs.YtgejnljpdfjgpaaDoorW.PrintMore
set_option linter.unusedVariables false
set_option linter.unusedSimpArgs false

theorem upto_none {par L : List Int} (h : ∀ s ∈ stepsOf par L, 0 ≤ s.1 ∧ s.1.toNat < par.length ∧ 0 ≤ s.2 ∧ s.2.toNat < par.length) (h0 : par.length = 0) : stepsOf par L = [] := by
  cases hs : stepsOf par L with
  | nil => rfl
  | cons s ss => have := (h s (by rw [hs]; exact List.mem_cons_self ..)).2.1; omega

set_option maxHeartbeats 4000000 in
set_option maxRecDepth 100000 in
theorem law16_PassNone.calls (A0 : Option Addr) (c0 : Nat) (l : List S41) (at_ : Int) (w : World) (hr0 : Kd.C k41 w A0 l.length l) (hc0 : l.length ≤ c0) (hT : TabOk w) :
    Calls Tryd.prog 3 #[.slice A0 l.length c0, .int .i64 at_] w fun e w' => e = .returned (.bool true) ∧ Below w.heap.size w w' := by
  have HR0 := Aside0.mk hr0
  have HC0 := Aside0.mk hc0
  have HT := Aside0.mk hT
  clear hr0 hc0 hT
  go_enter Tryd.func3, Tryd.ntmps3
  go_wp2_with fail
  refine (law16_shown.calls _ HT.out).mono ?_
  rintro e w1 ⟨rfl, hb1⟩
  have HB1 := Aside0.mk hb1
  clear hb1
  go_wp2_with fail
  refine (law16_shape.calls A0 c0 l _ (Kd.C_below HR0.out HB1.out) HC0.out).mono ?_
  rintro e w2 ⟨vb, vp, vo, bs, rs, rfl, hsh, hbs, hrs, hb2⟩
  have HB2 := Aside0.mk (below_step HB1.out hb2)
  have hlb : bs.length = (l.take 6).length := by have := congrArg List.length hbs; simpa [bagsOf] using this
  have hlr : rs.length = (l.take 6).length := by have := congrArg List.length hrs; simpa [relsOf] using this
  have hlp : (parsOf (l.take 6)).length = (l.take 6).length := parsOf_len _
  have hn6 : (l.take 6).length ≤ 6 := List.length_take_le 6 l
  obtain ⟨L0, L, ha0, ha1, hTree⟩ := tree_ok (bagsOf (l.take 6)) (parsOf (l.take 6)) (by omega) (parsOf_good _)
  obtain ⟨Ab, cb, eb, lb, gb⟩ := hsh.bags (by simp only [maxLen]; omega)
  obtain ⟨Ap, cp, ep, lp, gp⟩ := hsh.pars
  obtain ⟨Ao, co, eo, lo, go⟩ := hsh.rels (by simp only [maxLen]; omega)
  subst eb ep eo
  have hgood : ∀ x ∈ relsOf (l.take 6), RelGood x := fun x hx => by
    obtain ⟨p, _, rfl⟩ := List.mem_map.1 hx
    exact relL_good p
  have hxl : (relsOf (l.take 6)).length = rs.length := by rw [← hrs]; simp
  have hbl : (bagsOf (l.take 6)).length = bs.length := by rw [← hbs]; simp
  rw [hbs, ← hbl] at gb
  rw [hrs, ← hxl] at go
  rw [← hbl] at lb
  rw [← hxl] at lo
  have hsh2 := hsh
  rw [← hbl, ← hxl] at hsh ⊢
  have hpx : (parsOf (l.take 6)).length = (relsOf (l.take 6)).length := by omega
  have hbx : (relsOf (l.take 6)).length = (bagsOf (l.take 6)).length := by omega
  have hx6 : (relsOf (l.take 6)).length ≤ 6 := by omega
  have HBL := Aside0.mk (And.intro hbl hbs)
  clear hlb hlr hlp hn6 hbl hsh2 hbs
  generalize bagsOf (l.take 6) = bags at *
  generalize parsOf (l.take 6) = par at *
  generalize relsOf (l.take 6) = xs at *
  have HSH := Aside0.mk hsh
  have HRS := Aside0.mk (And.intro hrs hxl)
  have HA := Aside0.mk (And.intro ha0 ha1)
  have HTR := Aside0.mk hTree
  have HG := Aside0.mk hgood
  have HGB := Aside0.mk (And.intro gb lb)
  have HGP := Aside0.mk (And.intro gp lp)
  have HGO := Aside0.mk (And.intro go lo)
  have HPX := Aside0.mk hpx
  have HBX := Aside0.mk hbx
  clear hsh hrs hxl ha0 ha1 hTree hgood gb lb gp lp go lo hpx hbx hb2
  by_cases hn : xs.length = 0
  · have hq1 : ((xs.length : Int) == 0) = true := by rw [beq_iff_eq]; omega
    have hq2 : decide ((xs.length : Int) = 0) = true := decide_eq_true (by omega)
    have hq3 : decide (xs.length = 0) = true := decide_eq_true hn
    have HS0 := Aside0.mk (upto_none HTR.out.st0 (by have := HPX.out; omega))
    have HS1 := Aside0.mk (upto_none HTR.out.st1 (by have := HPX.out; omega))
    have HRED := Aside0.mk (fun (W : World) (hW : Below w2.heap.size w2 W) => pass_Reduce.calls 60 60 Ab cb bags Ap cp par Ao co xs L0 L W (Kd.C_below HGB.out.1 hW) HGB.out.2 (Kd.C_below HGP.out.1 hW) HGP.out.2 (Kd.C_below HGO.out.1 hW) HBX.out (by omega) HA.out.1 HA.out.2 HTR.out.in0 HTR.out.in1 (by rw [HS0.out]; simp) (by rw [HS1.out]; simp) HG.out (HT.out.on (below_step HB2.out hW)))
    have HSET := Aside0.mk (fun (W : World) (hW : Below w2.heap.size w2 W) => pass_Settled.calls 60 Ab cb bags Ap cp par Ao co xs L0 W (Kd.C_below HGB.out.1 hW) HGB.out.2 (Kd.C_below HGP.out.1 hW) HGP.out.2 (Kd.C_below HGO.out.1 hW) HBX.out HA.out.1 HTR.out.in0 (by rw [HS0.out]; simp) HG.out)
    clear hn
    go_wp2_with fail
    have hb3 : Below w2.heap.size w2 (w2.alloc (.cells #[.slice Ab bags.length cb, .slice Ap par.length cp] 27)) := (Below.refl _ _).alloc (Nat.le_refl _) _
    refine (HRED.out _ hb3).mono ?_
    rintro e w4 ⟨ga, ra, rfl, hra, hma, hb4⟩
    have HB4 := Aside0.mk (below_step hb3 hb4)
    have htr := blk_below (heap_alloc_new w2 (.cells #[.slice Ab bags.length cb, .slice Ap par.length cp] 27)) hb4
    have ht0 := (blk_cell htr 0).trans rfl
    have ht1 := (blk_cell htr 1).trans rfl
    clear hb3 hra hma hb4 htr
    go_wp2_with fail
    refine (HSET.out _ HB4.out).mono ?_
    rintro e w5 ⟨rfl, hb5⟩
    rw [HS0.out]
    have hall : allAgree xs [] = true := rfl
    rw [hall]
    have HB5 := Aside0.mk (below_step HB4.out hb5)
    clear hb5 hall ht0 ht1
    go_wp2
    go_ret
    exact ⟨rfl, below_step HB2.out HB5.out⟩
  · have hq1 : ((xs.length : Int) == 0) = false := by rw [beq_eq_false_iff_ne]; omega
    have hq2 : decide ((xs.length : Int) = 0) = false := decide_eq_false (by omega)
    have hq3 : decide (xs.length = 0) = false := decide_eq_false hn
    have hm : (0 : Int) < (xs.length : Int) := by omega
    obtain ⟨hc1, hc2⟩ := cutI_range at_ (xs.length : Int) hm
    obtain ⟨j, hj⟩ := Int.eq_ofNat_of_zero_le hc1
    rw [hj] at hc2
    have hjl : j < xs.length := by omega
    have HJ := Aside0.mk (show (bits .and .i64 at_ 65535).tmod (xs.length : Int) = (j : Int) by rw [cut_tmod, hj])
    clear hj hc1
    go_upto_region 7 with fail
    rw [HJ.out]
    obtain ⟨g, rfl⟩ : ∃ g, Ao = some ⟨g, 0, none⟩ := by
      rcases HSH.out.rel.2 with ⟨e, _⟩ | ⟨g, cap, cur, e, _⟩
      · injection e with _ e _; omega
      · injection e with e _ _; exact ⟨g, e⟩
    have hrl : j < rs.length := by have := HRS.out.2; omega
    have hrj : rs[j]? = some rs[j] := List.getElem?_eq_getElem hrl
    generalize rs[j] = r0 at hrj
    have HS3 := Aside0.mk (HSH.out.below ((Below.refl w2.heap.size w2).alloc (Nat.le_refl _) (.cells #[.slice Ab bags.length cb, .slice Ap par.length cp] 27)))
    have HTB3 := Aside0.mk (heap_alloc_new w2 (.cells #[.slice Ab bags.length cb, .slice Ap par.length cp] 27))
    have HB3 := Aside0.mk ((Below.refl w2.heap.size w2).alloc (Nat.le_refl _) (.cells #[.slice Ab bags.length cb, .slice Ap par.length cp] 27))
    have HGLT := Aside0.mk (show w.heap.size ≤ g ∧ g < w2.heap.size from ⟨Nat.le_trans HB1.out.size (own_base HSH.out.rel g rfl), own_lt HSH.out.rel g rfl⟩)
    generalize w2.alloc (.cells #[.slice Ab bags.length cb, .slice Ap par.length cp] 27) = w3 at HS3 HTB3 HB3 ⊢
    obtain ⟨hc1, hc3⟩ := own_cell HS3.out.rel (relCells_get rs j r0 hrj).2
    have hx0 : (0 : Int) ≤ (j : Int) := by omega
    have HRJ := Aside0.mk hrj
    clear hrj
    go_upto_region 8 with fail
    have HS4 := Aside0.mk (HS3.out.strike rfl HRJ.out)
    have HTB4 := Aside0.mk (blk_grown HTB3.out (grown_setCell w3 g (j * 2 + 1) (.slice none 0 0)) (fun e => by have := HGLT.out; injection e; omega))
    have HB4 := Aside0.mk (((below_step HB2.out HB3.out)).setCell (p := ⟨g, j * 2 + 1, none⟩) HGLT.out.1 (.slice none 0 0))
    clear hc1 hc3
    generalize w3.setCell ⟨g, j * 2 + 1, none⟩ (.slice none 0 0) = w4 at HS4 HTB4 HB4 ⊢
    have hr0x : r0.2.2 = xs.getD j z36 := by
      rw [← HRS.out.1, List.getD_eq_getElem?_getD, List.getElem?_map, HRJ.out]; rfl
    obtain ⟨ys, hys⟩ : ∃ ys, ys = xs.set j ⟨r0.2.2.f0, []⟩ := ⟨_, rfl⟩
    have hmap : (rs.set j (r0.1, .slice none 0 0, ⟨r0.2.2.f0, []⟩)).map (·.2.2) = ys := by rw [List.map_set, HRS.out.1, hys]
    have hyl : ys.length = xs.length := by rw [hys]; simp
    have hyj : (ys.getD j z36).f1 = [] := by rw [hys, List.getD_eq_getElem?_getD, List.getElem?_set, if_pos rfl, if_pos hjl]; rfl
    have hyg : ∀ x ∈ ys, RelGood x := fun x hx => by
      rw [hys] at hx
      rcases List.mem_or_eq_of_mem_set hx with hx | rfl
      · exact HG.out x hx
      · have := HG.out r0.2.2 (by rw [← HRS.out.1]; exact List.mem_map.2 ⟨r0, List.mem_of_getElem? HRJ.out, rfl⟩)
        exact ⟨this.sch, by simp, by simp, by simp⟩
    obtain ⟨Ao4, co4, eo4, lo4, go4⟩ := HS4.out.rels (by have := HRS.out.2; simp [maxLen]; omega)
    rw [hmap] at go4
    have hsl : (rs.set j (r0.1, .slice none 0 0, ⟨r0.2.2.f0, []⟩)).length = ys.length := by rw [← hmap]; simp
    rw [hsl] at eo4 lo4 go4
    injection eo4 with e1 e2 e3
    clear e2
    subst e1 e3
    have hst0 : ∀ s ∈ stepsOf par L0, 0 ≤ s.1 ∧ s.1.toNat < ys.length ∧ 0 ≤ s.2 ∧ s.2.toNat < ys.length := fun s hs => by have := HTR.out.st0 s hs; have := HPX.out; omega
    have hst1 : ∀ s ∈ stepsOf par L, 0 ≤ s.1 ∧ s.1.toNat < ys.length ∧ 0 ≤ s.2 ∧ s.2.toNat < ys.length := fun s hs => by have := HTR.out.st1 s hs; have := HPX.out; omega
    obtain ⟨Ab4, cb4, eb4, lb4, gb4⟩ := HS4.out.bags (by have := HBL.out.1; have := HBX.out; simp only [maxLen]; omega)
    rw [HBL.out.2, ← HBL.out.1] at gb4
    rw [← HBL.out.1] at eb4 lb4
    injection eb4 with e1 e2 e3
    clear e2
    subst e1 e3
    obtain ⟨Ap4, cp4, ep4, lp4, gp4⟩ := HS4.out.pars
    injection ep4 with e1 e2 e3
    clear e2
    subst e1 e3
    have HRED := Aside0.mk (pass_Reduce.calls 60 60 Ab cb bags Ap cp par (some ⟨g, 0, none⟩) co ys L0 L w4 gb4 lb4 gp4 lp4 go4 (hyl.trans HBX.out) (by omega) HA.out.1 HA.out.2 HTR.out.in0 HTR.out.in1 hst0 hst1 hyg (HT.out.on HB4.out))
    rw [hyl] at HRED
    have hyp : ys.length = par.length := by have := HPX.out; omega
    obtain ⟨hu1, hu2⟩ := upL_good (stepsOf par L0) hyg (fun s hs => (hst0 s hs).2.2.2)
    obtain ⟨hd1, hd2⟩ := downL_good (stepsOf par L) hu1 (fun s hs => by rw [hu2]; exact (hst1 s hs).2.1)
    have HY := Aside0.mk (show (∀ k, k < xs.length → ((downL (upL ys (stepsOf par L0)) (stepsOf par L)).getD k z36).f1 = []) ∧ (∀ k, k < xs.length → ((downL (upL ys (stepsOf par L0)) (stepsOf par L)).getD k z36).f0 = (ys.getD k z36).f0) ∧ (downL (upL ys (stepsOf par L0)) (stepsOf par L)).length = xs.length from ⟨fun k hk => none_all HTR.out hyp j (by omega) hyj k (by omega), fun k hk => by
      have h1 := downL_f0 (stepsOf par L) (upL ys (stepsOf par L0))
      rw [upL_f0] at h1
      have h2 := congrArg (fun l => l[k]?) h1
      simp only [List.getElem?_map] at h2
      rw [List.getElem?_eq_getElem (show k < (downL (upL ys (stepsOf par L0)) (stepsOf par L)).length by omega), List.getElem?_eq_getElem (show k < ys.length by omega)] at h2
      rw [List.getD_eq_getElem?_getD, List.getD_eq_getElem?_getD, List.getElem?_eq_getElem (show k < (downL (upL ys (stepsOf par L0)) (stepsOf par L)).length by omega), List.getElem?_eq_getElem (show k < ys.length by omega)]
      simpa using h2, by omega⟩)
    generalize downL (upL ys (stepsOf par L0)) (stepsOf par L) = zs at HRED HY
    obtain ⟨rs', hrs'⟩ : ∃ rs', rs' = rs.set j (r0.1, .slice none 0 0, ⟨r0.2.2.f0, []⟩) := ⟨_, rfl⟩
    rw [← hrs'] at HS4 hmap
    have HMAP := Aside0.mk hmap
    have HYL := Aside0.mk hyl
    have ht0 := (blk_cell HTB4.out 0).trans rfl
    have ht1 := (blk_cell HTB4.out 1).trans rfl
    clear hyp hu1 hu2 hd1 hd2 gb4 lb4 gp4 lp4 go4 lo4 hst0 hst1 hyg hyj hmap hyl hr0x hsl hrs' hys
    go_wp2_with fail
    refine HRED.out.mono ?_
    rintro e w5 ⟨ga, ra, rfl, hra, hma, hb5⟩
    have HRA := Aside0.mk hra
    have HMA := Aside0.mk hma
    have HB5 := Aside0.mk hb5
    have HS5 := Aside0.mk (HS4.out.below hb5)
    have hxb : xs.length ≤ 6 := hx6
    have hzz1 : ((xs.length : Int) != (xs.length : Int)) = false := by simp
    have hzz2 : decide ((xs.length : Int) = (xs.length : Int)) = true := by simp
    clear hra hma hb5 ht0 ht1 HRED
    go_wp2
    go_loopw [12] (fun i wr => ∃ k : Nat, k ≤ xs.length ∧ i = .int .i64 k ∧ Drawn0 w5 wr) (fun i _ => xs.length - (intOf i).toNat)
    case atStart => exact ⟨0, Nat.zero_le _, rfl, by repeat (first | exact Drawn0.refl _ | apply Drawn0.step)⟩
    case round =>
      clear hzz1 hzz2
      obtain ⟨k, hk, rfl, ⟨⟨m, rfl⟩⟩⟩ := hrel
      by_cases hlt : k < xs.length
      · have hd1 : decide ((k : Int) < (xs.length : Int)) = true := decide_eq_true (by omega)
        have hd2 : decide (k < xs.length) = true := decide_eq_true hlt
        have hcells : ∃ (B0 : Option Addr) (d0 : Nat) (B1 : Option Addr) (d1 : Nat) (B2 : Option Addr) (d2 N : Nat), w5.cell? ⟨ga, k * 2, none⟩ = some (.slice B0 N d0) ∧ w5.cell? ⟨ga, k * 2 + 1, none⟩ = some (.slice B1 0 d1) ∧ w5.cell? ⟨g, k * 2, none⟩ = some (.slice B2 N d2) := by
          have hra1 : k < ra.length := by have h1 := congrArg List.length HMA.out; have h2 := HY.out.2.2; simp at h1; omega
          have hrk : ra[k]? = some ra[k] := List.getElem?_eq_getElem hra1
          have hzk : relOf ra[k] = zs.getD k z36 := by rw [← HMA.out, List.getD_eq_getElem?_getD, List.getElem?_map, hrk]; rfl
          obtain ⟨B0, d0, B1, d1, f0, f1, _, _, _, _⟩ := relOf_reads (HRA.out.own _ (List.getElem_mem hra1))
          obtain ⟨hc0, hc1, _, _⟩ := HRA.out.cell hrk
          rw [f0, hzk, HY.out.2.1 k hlt] at hc0
          rw [f1, hzk, HY.out.1 k hlt] at hc1
          have hrs1 : k < rs'.length := by have h1 := congrArg List.length HMAP.out; have h2 := HYL.out; simp at h1; omega
          have hrk2 : rs'[k]? = some rs'[k] := List.getElem?_eq_getElem hrs1
          have hyk : rs'[k].2.2 = ys.getD k z36 := by rw [← HMAP.out, List.getD_eq_getElem?_getD, List.getElem?_map, hrk2]; rfl
          obtain ⟨⟨B2, d2, f2, _, _⟩, _⟩ := HS5.out.lead_now.2 _ (List.getElem_mem hrs1)
          obtain ⟨hc2, _⟩ := own_cell HS5.out.rel (relCells_get rs' k _ hrk2).1
          have f2 : rs'[k].1 = .slice B2 rs'[k].2.2.f0.length d2 := f2
          rw [f2, hyk] at hc2
          exact ⟨B0, d0, B1, d1, B2, d2, _, hc0, hc1, hc2⟩
        obtain ⟨B0, d0, B1, d1, B2, d2, N, hc0, hc1, hc2⟩ := hcells
        have hk0 : (0 : Int) ≤ (k : Int) := by omega
        have hk1 : (k : Int) < (xs.length : Int) := by omega
        have hN1 : ((N : Int) != (N : Int)) = false := by simp
        go_wp2
        repeat (go_quiet (fail); try go_wp2)
        go_roundw
        case rel => exact ⟨k + 1, by omega, by go_num, by repeat (first | exact Drawn0.refl _ | apply Drawn0.step)⟩
        case measure => simp [intOf]; omega
      · obtain rfl : k = xs.length := by omega
        have hd2 : decide (xs.length < xs.length) = false := decide_eq_false (by omega)
        go_wp2
        go_ret
        exact ⟨rfl, below_drewN (below_step HB4.out HB5.out) _⟩

end Go.Proofs.YtgejnljpdfjgpaaDoor.Q
/- PassNone: whatever the parts and the bag, the law answers true, and what comes in reads as it did. Its conditions: those of the card: three tables of the library start as the program's text lays them. -/
namespace Go.Proofs.YtgejnljpdfjgpaaDoor.Q
open Go.ChangeShapes Go.WideShapes Go.ChangeAt Go.RowKit Go.Proofs.YtgejnljpdfjgpaaDoorW.PrintWords Go.Proofs.YtgejnljpdfjgpaaDoorW.PrintLast Go.Proofs.YtgejnljpdfjgpaaDoorW.PrintMore

set_option maxRecDepth 100000 in
theorem Opens.part {H : Type} {enc : TypeId × Value → H} {W : World} : Opens enc W 41 k41 (fun _ => True) := fun fuel cs x h => by
  have hl : cs.length = 3 := (len_of Tryd.underlying41 h).trans (by kernel_rfl)
  obtain ⟨a, ha, _⟩ := field_of Tryd.underlying41 h (i := 0) rfl (Opens.int (k := .i64) Tryd.underlying3)
  obtain ⟨b, ⟨A1, c1, eb, l1, g1⟩, _⟩ := field_of Tryd.underlying41 h (i := 1) rfl Opens.ints
  obtain ⟨c, ⟨A2, c2, ec, l2, g2⟩, _⟩ := field_of Tryd.underlying41 h (i := 2) rfl Opens.rows
  match cs, hl with
  | [v0, v1, v2], _ =>
    have h0 : (Tryd.prog.cellsOf 3) = 1 := by kernel_rfl
    have h1 : (Tryd.prog.cellsOf 25) = 1 := by kernel_rfl
    have h2 : (Tryd.prog.cellsOf 24) = 1 := by kernel_rfl
    have ja : ([v0, v1, v2].drop 0).take (Tryd.prog.cellsOf 3) = [Value.int .i64 a] := ha
    have jb : ([v0, v1, v2].drop 1).take (Tryd.prog.cellsOf 25) = [Value.slice A1 b.length c1] := eb
    have jc : ([v0, v1, v2].drop 2).take (Tryd.prog.cellsOf 24) = [Value.slice A2 c.length c2] := ec
    rw [h0] at ja
    rw [h1] at jb
    rw [h2] at jc
    simp at ja jb jc
    clear ha eb ec h
    subst ja jb jc
    exact ⟨⟨a, b, c⟩, k41_mk W ⟨a, b, c⟩ l1 g1 l2 g2, trivial⟩
theorem Opens.parts {H : Type} {enc : TypeId × Value → H} {W : World} : Opens enc W 22 (Kd.slice 41 k41) (fun xs => ∀ x ∈ xs, True) := Opens.slice Tryd.underlying22 (by kernel_rfl) Opens.part

set_option maxRecDepth 100000 in
theorem none_contract (H : Type) (enc : TypeId × Value → H) (W : World) (base : Nat) (args : Array Value) (ds gs : List (DataW H)) (before : List MemPlace)
    (hval : ∀ (j : Nat) t v, Tryd.f3.params[j]? = some t → args[j]? = some v → Value.okWide Tryd.prog W .any base t v)
    (hW : DataW.Whole enc Tryd.prog Tryd.f3.params.toList Rows.passNoneSpec.vars false W args.toList ds gs before) (hL : laidMetH Tryd.prog laid3 W) :
    Calls Tryd.prog 3 args W fun e W' => ∃ v, e = .returned v ∧ Rows.passNoneSpec.post enc Tryd.prog Tryd.f3 false true false false W args v W' := by
  have hW' := hW
  obtain ⟨p, q, hA0, hV, rfl, hfz, hnd⟩ := hW
  have hA : DataW.TrodAll enc Tryd.prog W 0 (fun _ => true) true Tryd.f3.params.toList args.toList ds p := hA0
  rw [Tryd.params3] at hA hval
  obtain ⟨v0, vs0, d0, ds0, p0, q0, hargs, rfl, rfl, h0, r0⟩ := trodAll_cons hA
  obtain ⟨v1, vs1, d1, ds1, p1, q1, rfl, rfl, rfl, h1, r1⟩ := trodAll_cons r0
  obtain ⟨rfl, rfl, rfl⟩ := trodAll_nil r1
  obtain rfl : args = #[v0, v1] := by cases args; simp_all
  obtain ⟨rfl, rfl⟩ := trodVars_none hV
  obtain ⟨a0, len0, cap0, rfl⟩ := okWide_slice Tryd.underlying22 (hval 0 22 v0 rfl rfl)
  have k0 := h0
  have lt0 : ∀ x ∈ p0, x.block < W.heap.size := by obtain ⟨m, hm⟩ := k0; exact DataW.trod_lt m _ _ _ hm
  obtain ⟨fuel, hf⟩ := h0
  obtain ⟨A, c, l, e0, hc, hC, _⟩ := Opens.arg Opens.parts hf
  injection e0 with e1 e2 e3
  subst e1 e2 e3
  obtain ⟨a1, rfl, rfl, rfl, w1⟩ := open_int Tryd.underlying3 (hval 1 3 v1 rfl rfl) h1
  clear hA0 hf
  refine (law16_PassNone.calls a0 cap0 l a1 W hC hc (tabOk hL)).mono fun e W' ⟨he, bel⟩ => ?_
  subst he
  exact ⟨_, rfl, _, _, _, [], _, [], hW', trodAll_mk1 (shut_bool Tryd.underlying4 _), trodAll_cons_mk (Below.trod laidOut (by kernel_rfl) (of_decide_eq_true (by kernel_rfl)) k0 bel lt0) (trodAll_cons_mk (shut_int Tryd.underlying3 w1) trodAll_mk0), rfl, bel.frame _, fun h => by cases h⟩

set_option maxRecDepth 100000 in
theorem none_laid_met (os : Os) : laidMet Tryd.prog laid3 ((laidWorld os).forCall (fun _ _ => 0) ⟨#[], #[.slice none 0 0, .int .i64 0], []⟩).memory :=
  laidMet_of_run' 8 (by kernel_rfl) (by kernel_rfl)
set_option maxRecDepth 100000 in
theorem none_reads (os : Os) {H : Type} (enc : TypeId × Value → H) : ∃ places, DataW.whole enc Tryd.prog ((laidWorld os).forCall (fun _ _ => 0) ⟨#[], #[.slice none 0 0, .int .i64 0], []⟩).memory Tryd.f3.params.toList Rows.passNoneSpec.vars false #[Value.slice none 0 0, .int .i64 0].toList 8 = some ([.nil, .lit (.int .i64 0)], [], places) :=
  ⟨[], by kernel_rfl⟩

set_option maxRecDepth 100000 in
theorem none_lifted (os : Os) (started : os.Started) (H : Type) (enc : TypeId × Value → H) (F : Stop.Interp) :
    ReturnsInHanded {} Tryd.checked os 3 .any ((OpenSpec.ofChange Rows.passNoneSpec).preRow enc Tryd.prog Tryd.f3 Rows.passNoneRow.domain false Rows.passNoneRow.laid) (((OpenSpec.ofChange Rows.passNoneSpec).at F).post enc Tryd.prog Tryd.f3 false true false false) := by
  obtain ⟨places, hx⟩ := none_reads os enc
  refine returnsInHanded_of_row (C := Tryd.checked) (s := OpenSpec.ofChange Rows.passNoneSpec) own started (by kernel_rfl) Tryd.func3
    (witness_row_at (enc := enc) (C := Tryd.checked) false (laidWorld os) #[.slice none 0 0, .int .i64 0] rfl (by kernel_rfl) (by kernel_rfl) (by kernel_rfl)
      (OpenSpec.preRow_of_cond 8 hx (by kernel_rfl) (fun k hk => by cases hk) (by kernel_rfl) (none_laid_met os))) ?_
  intro W base args ds gs before hval hW _ _ _ hL _ _
  exact none_contract H enc W base args ds gs before hval hW hL

theorem none_said : Rows.PassNoneSaid :=
  OpenClaim.holds_of_cond 3 Tryd.f3 rfl rfl rfl rfl rfl rfl rfl ⟨rfl, rfl, rfl, rfl, rfl⟩ rfl rfl rfl rfl rfl (by kernel_rfl) Tryd.func3 (by kernel_rfl)
    (of_decide_eq_true (by kernel_rfl)) (by unfold Func.isWrapper; first | (rw [if_pos (by decide +kernel)]; kernel_rfl) | (rw [if_neg (by decide +kernel)]; exact ⟨rfl, rfl⟩))
    (fun os started H enc _ F => by rw [OpenClaim.pre_eq_preRow]; exact none_lifted os started H enc F)

theorem none_plain (f : FuncId) (fn : Func) (hf : Tryd.pinned.checked.prog.funcNamed "arborist/arboristlaw16.PassNone" = some f) (hfn : Tryd.pinned.checked.prog.funcs[f]? = some fn) :
    false = Tryd.pinned.checked.prog.looks [] ∧ ∀ (j : Nat) t, fn.params[j]? = some t → Tryd.pinned.checked.prog.wantsStandIn t = false := by
  obtain rfl : f = 3 := Option.some.inj ((show Tryd.prog.funcNamed "arborist/arboristlaw16.PassNone" = some 3 by kernel_rfl).symm.trans hf) |>.symm
  obtain rfl : fn = Tryd.f3 := (Option.some.inj (Tryd.func3.symm.trans hfn)).symm
  refine ⟨by kernel_rfl, fun j t ht => ?_⟩
  rw [Tryd.params3] at ht
  have ht := Array.mem_of_getElem? ht
  simp at ht
  rcases ht with rfl | rfl
  · exact (show Tryd.prog.wantsStandIn 22 = false by kernel_rfl)
  · exact (show Tryd.prog.wantsStandIn 3 = false by kernel_rfl)
end Go.Proofs.YtgejnljpdfjgpaaDoor.Q
namespace Go.Proofs.YtgejnljpdfjgpaaDoor
/-- THE CARD. -/
theorem passNone_card : Rows.PassNoneCardSaid :=
  Claim7.holds_tied_plain_at .later [] _ _ _ _ Q.none_said (fun _ h => by cases h) (by kernel_rfl) (fun _ h => by cases h) passNone_row_tie rfl ⟨rfl, rfl⟩ (by kernel_rfl) rfl Q.none_plain (by kernel_rfl)
#print axioms passNone_card
end Go.Proofs.YtgejnljpdfjgpaaDoor
