/- A part of the proof of this claim (part 14 of 16): contracts of callees and plain facts, each with its own conditions before its statement. -/
import Derived.Deep.RegionLaw
import Derived.Test.YtgejnljpdfjgpaaDoorGK5
import Derived.Test.YtgejnljpdfjgpaaDoorGK6
import Derived.Test.YtgejnljpdfjgpaaDoorGK11
import Derived.Test.YtgejnljpdfjgpaaDoorGK12
import Derived.Test.YtgejnljpdfjgpaaDoorGK13
set_option linter.unusedVariables false
set_option linter.unusedSimpArgs false
/- join.Agree, and pass.Settled's literal. Their conditions: what they are handed is read at the call; sizes. -/
namespace Go.Proofs.YtgejnljpdfjgpaaDoor.Q
open Go.RowKit Go.Proofs Go.Proofs.YtgejnljpdfjgpaaDoorW.PrintWords Go.Proofs.YtgejnljpdfjgpaaDoorW.PrintLast Go.Proofs.YtgejnljpdfjgpaaDoorW.PrintMore
set_option linter.unusedVariables false
set_option linter.unusedSimpArgs false

def agreeL (sA : List Int) (rA : List (List Int)) (sB : List Int) (rB : List (List Int)) : Bool := decide (projS sA sB = projS sB sA ∧ projR sA rA sB = projR sB rB sA)

set_option maxHeartbeats 2000000 in
set_option maxRecDepth 100000 in
theorem join_Agree.calls (A0 : Option Addr) (c0 : Nat) (sA : List Int) (A1 : Option Addr) (c1 : Nat) (rA : List (List Int)) (A2 : Option Addr) (c2 : Nat) (sB : List Int) (A3 : Option Addr) (c3 : Nat) (rB : List (List Int)) (w : World)
    (hr0 : Kd.C (Kd.int .i64) w A0 sA.length sA) (hc0 : sA.length ≤ c0) (hr1 : Kd.C (Kd.slice 3 (Kd.int .i64)) w A1 rA.length rA) (hc1 : rA.length ≤ c1) (hr2 : Kd.C (Kd.int .i64) w A2 sB.length sB) (hc2 : sB.length ≤ c2) (hr3 : Kd.C (Kd.slice 3 (Kd.int .i64)) w A3 rB.length rB) (hc3 : rB.length ≤ c3)
    (hl0 : sA.length < 17179869184) (hl1 : rA.length < 1099511627776) (hl2 : sB.length < 17179869184) (hl3 : rB.length < 1099511627776) :
    Calls Tryd.prog 16 #[.agg #[.slice A0 sA.length c0, .slice A1 rA.length c1], .agg #[.slice A2 sB.length c2, .slice A3 rB.length c3]] w fun e w' => e = .returned (.bool (agreeL sA rA sB rB)) ∧ Below w.heap.size w w' := by
  have HR0 := Aside0.mk (And.intro hr0 hc0)
  have HR1 := Aside0.mk (And.intro hr1 hc1)
  have HR2 := Aside0.mk (And.intro hr2 hc2)
  have HR3 := Aside0.mk (And.intro hr3 hc3)
  have HL0 := Aside0.mk (And.intro hl0 hl1)
  have HL2 := Aside0.mk (And.intro hl2 hl3)
  clear hr0 hc0 hr1 hc1 hr2 hc2 hr3 hc3 hl0 hl1 hl2 hl3
  go_enter Tryd.func16, Tryd.ntmps16
  go_wp2_with fail
  have hb0 : Below w.heap.size w ((w.alloc (.cells #[.slice A0 sA.length c0, .slice A1 rA.length c1] 36)).alloc (.cells #[.slice A2 sB.length c2, .slice A3 rB.length c3] 36)) := ((Below.refl _ _).alloc (Nat.le_refl _) _).alloc (by simp) _
  have hba : ((w.alloc (.cells #[.slice A0 sA.length c0, .slice A1 rA.length c1] 36)).alloc (.cells #[.slice A2 sB.length c2, .slice A3 rB.length c3] 36)).heap[w.heap.size]? = some (.cells #[.slice A0 sA.length c0, .slice A1 rA.length c1] 36 (0, 0)) := blk_alloc (heap_alloc_new w _) _
  have hbb : ((w.alloc (.cells #[.slice A0 sA.length c0, .slice A1 rA.length c1] 36)).alloc (.cells #[.slice A2 sB.length c2, .slice A3 rB.length c3] 36)).heap[w.heap.size + 1]? = some (.cells #[.slice A2 sB.length c2, .slice A3 rB.length c3] 36 (0, 0)) := by
    have := heap_alloc_new (w.alloc (.cells #[.slice A0 sA.length c0, .slice A1 rA.length c1] 36)) (.cells #[.slice A2 sB.length c2, .slice A3 rB.length c3] 36)
    simpa using this
  generalize (w.alloc (.cells #[.slice A0 sA.length c0, .slice A1 rA.length c1] 36)).alloc (.cells #[.slice A2 sB.length c2, .slice A3 rB.length c3] 36) = W0 at hb0 hba hbb ⊢
  have HB0 := Aside0.mk hb0
  have XS : Aside0 (∀ W, Below W0.heap.size W0 W → W.cell? ⟨w.heap.size, 0, none⟩ = some (.slice A0 sA.length c0) ∧ W.cell? ⟨w.heap.size, 1, none⟩ = some (.slice A1 rA.length c1) ∧ W.cell? ⟨w.heap.size + 1, 0, none⟩ = some (.slice A2 sB.length c2) ∧ W.cell? ⟨w.heap.size + 1, 1, none⟩ = some (.slice A3 rB.length c3) ∧ Aside0 (Below W0.heap.size W0 W)) := ⟨fun W h => ⟨(blk_cell (blk_below hba h) 0).trans rfl, (blk_cell (blk_below hba h) 1).trans rfl, (blk_cell (blk_below hbb h) 0).trans rfl, (blk_cell (blk_below hbb h) 1).trans rfl, ⟨h⟩⟩⟩
  clear hb0 hba hbb
  go_region_held3 (fun w' => w'.cell? ⟨w.heap.size, 0, none⟩ = some (.slice A0 sA.length c0) ∧ w'.cell? ⟨w.heap.size, 1, none⟩ = some (.slice A1 rA.length c1) ∧ w'.cell? ⟨w.heap.size + 1, 0, none⟩ = some (.slice A2 sB.length c2) ∧ w'.cell? ⟨w.heap.size + 1, 1, none⟩ = some (.slice A3 rB.length c3) ∧ Aside0 (Below W0.heap.size W0 w'))
    ((refine XS.out _ ?_; go_split_ands; first | exact below_drew (Below.refl _ _) | exact hk5.out | exact hk4.out | exact hk3.out))
    (first
      | (go_at_call 28; go_split_ands
         (with_reducible refine (rel_Project.calls A0 c0 sA A1 c1 rA A2 c2 sB _ ?a1 HR0.out.2 ?a2 HR1.out.2 ?a3 HL0.out.1 HL0.out.2 HL2.out.1).mono ?_)
         (case a1 => exact (Kd.C_below HR0.out.1 (below_step HB0.out ‹Aside0 (Below W0.heap.size W0 _)›.out)))
         (case a2 => exact (Kd.C_below HR1.out.1 (below_step HB0.out ‹Aside0 (Below W0.heap.size W0 _)›.out)))
         (case a3 => exact (Kd.C_below HR2.out.1 (below_step HB0.out ‹Aside0 (Below W0.heap.size W0 _)›.out)))
         rintro e w3 ⟨va, vb, rfl, ha, hb, hb3⟩
         have hk3 := Aside0.mk (below_step ‹Aside0 (Below W0.heap.size W0 _)›.out hb3)
         obtain ⟨Aa, ca, ea, la, ga⟩ := Kd.R_reads ha
         obtain ⟨Ab, cb, eb, lb, gb⟩ := Kd.S_reads hb
         subst ea eb
         have HA3 := Aside0.mk (And.intro la (And.intro ga (And.intro lb gb)))
         clear la ga lb gb ha hb hb3)
      | (go_at_call 28; go_split_ands
         (with_reducible refine (rel_Project.calls A2 c2 sB A3 c3 rB A0 c0 sA _ ?b1 HR2.out.2 ?b2 HR3.out.2 ?b3 HL2.out.1 HL2.out.2 HL0.out.1).mono ?_)
         (case b1 => exact (Kd.C_below HR2.out.1 (below_step HB0.out ‹Aside0 (Below W0.heap.size W0 _)›.out)))
         (case b2 => exact (Kd.C_below HR3.out.1 (below_step HB0.out ‹Aside0 (Below W0.heap.size W0 _)›.out)))
         (case b3 => exact (Kd.C_below HR0.out.1 (below_step HB0.out ‹Aside0 (Below W0.heap.size W0 _)›.out)))
         rintro e w4 ⟨vc, vd, rfl, ha, hb, hb4⟩
         have hk4 := Aside0.mk (below_step ‹Aside0 (Below W0.heap.size W0 _)›.out hb4)
         obtain ⟨Ac, cc, ea, la, ga⟩ := Kd.R_reads ha
         obtain ⟨Ad, cd, eb, lb, gb⟩ := Kd.S_reads hb
         subst ea eb
         have HA4 := Aside0.mk (And.intro (And.intro HA3.out.1 (And.intro (Kd.C_below HA3.out.2.1 hb4) (And.intro HA3.out.2.2.1 (Kd.C_below HA3.out.2.2.2 hb4)))) (And.intro la (And.intro ga (And.intro lb gb))))
         clear la ga lb gb ha hb hb4)
      | (go_at_call 27; go_split_ands
         refine (rel_Same.calls Aa ca (projS sA sB) Ab cb (projR sA rA sB) Ac cc (projS sB sA) Ad cd (projR sB rB sA) _ HA4.out.1.2.1 HA4.out.1.1 HA4.out.1.2.2.2 HA4.out.2.2.1 HA4.out.2.1 HA4.out.2.2.2.2).mono ?_
         rintro e w5 ⟨rfl, hb5⟩
         have hk5 := Aside0.mk (below_step ‹Aside0 (Below W0.heap.size W0 _)›.out hb5)
         clear hb5))
  all_goals go_split_ands
  all_goals go_wp2
  go_ret
  exact ⟨ret_bool (by unfold agreeL; rw [Bool.decide_and]), below_step HB0.out hk5.out⟩

def agreeS (a b : S36) : Bool := agreeL a.f0 a.f1 b.f0 b.f1

set_option maxHeartbeats 2000000 in
set_option maxRecDepth 100000 in
theorem pass_Settled_1.calls (i p B D : Nat) (b : Bool) (A : Option Addr) (c : Nat) (xs : List S36) (w : World) (hb : w.heap[B]? = some (.cells #[.bool b] 4 (0, 0))) (hd : w.heap[D]? = some (.cells #[.slice A xs.length c] 28 (0, 0)))
    (hC : Kd.C k36 w A xs.length xs) (hi : i < xs.length) (hp : p < xs.length) (hg : ∀ x ∈ xs, RelGood x) :
    Calls Tryd.prog 15 #[.int .i64 i, .int .i64 p, .pointer (some ⟨B, 0, none⟩), .pointer (some ⟨D, 0, none⟩)] w fun e w' => e = .returned (.tuple #[]) ∧ w'.heap[B]? = some (.cells #[.bool (b && agreeS (xs.getD i z36) (xs.getD p z36))] 4 (0, 0)) ∧ w.grownBy w' (some B) := by
  obtain ⟨ad, A0, c0, A1, c1, e1, xi0, xi1, li0, Ci0, li1, Ci1⟩ := at_T36 hC (i : Int) (by omega) (by omega)
  obtain ⟨ad', A2, c2, A3, c3, e2, xp0, xp1, lp0, Cp0, lp1, Cp1⟩ := at_T36 hC (p : Int) (by omega) (by omega)
  rw [e1] at e2
  injection e2 with e2
  subst e1 e2
  rw [Int.toNat_natCast] at xi0 xi1 xp0 xp1
  have hxi : xs[i]? = some (rd_T36 xs (i : Int)) := by simp [rd_T36, List.getElem?_eq_getElem hi]
  have hxp : xs[p]? = some (rd_T36 xs (p : Int)) := by simp [rd_T36, List.getElem?_eq_getElem hp]
  have HGI := Aside0.mk (hg _ (List.mem_of_getElem? hxi))
  have HGP := Aside0.mk (hg _ (List.mem_of_getElem? hxp))
  have HRI := Aside0.mk (show xs.getD i z36 = rd_T36 xs (i : Int) by rw [List.getD_eq_getElem?_getD, hxi]; rfl)
  have HRP := Aside0.mk (show xs.getD p z36 = rd_T36 xs (p : Int) by rw [List.getD_eq_getElem?_getD, hxp]; rfl)
  clear hxi hxp
  generalize rd_T36 xs (i : Int) = x at *
  generalize rd_T36 xs (p : Int) = y at *
  rw [HRI.out, HRP.out]
  have HI0 := Aside0.mk (And.intro Ci0 (And.intro li0 (And.intro Ci1 li1)))
  have HP0 := Aside0.mk (And.intro Cp0 (And.intro lp0 (And.intro Cp1 lp1)))
  have hi0 : (0 : Int) ≤ (i : Int) := by omega
  have hi1 : (i : Int) < (xs.length : Int) := by omega
  have hp0 : (0 : Int) ≤ (p : Int) := by omega
  have hp1 : (p : Int) < (xs.length : Int) := by omega
  have HHB := Aside0.mk hb
  have HHD := Aside0.mk hd
  have XS : Aside0 (∀ W, Below w.heap.size w W → W.cell? ⟨B, 0, none⟩ = some (.bool b) ∧ W.cell? ⟨D, 0, none⟩ = some (.slice (some ad) xs.length c) ∧ W.cell? (ad.add (i * 2)) = some (.slice A0 x.f0.length c0) ∧ W.cell? ⟨(ad.add (i * 2)).block, (ad.add (i * 2)).off + 1, none⟩ = some (.slice A1 x.f1.length c1) ∧ W.cell? (ad.add (p * 2)) = some (.slice A2 y.f0.length c2) ∧ W.cell? ⟨(ad.add (p * 2)).block, (ad.add (p * 2)).off + 1, none⟩ = some (.slice A3 y.f1.length c3) ∧ W.frozen? ⟨B, 0, none⟩ = false ∧ Aside0 (Below w.heap.size w W)) :=
    ⟨fun W h => ⟨(blk_cell (blk_below hb h) 0).trans rfl, (blk_cell (blk_below hd h) 0).trans rfl, (h.cell (World.block_lt_of_cell? w _ xi0)).trans xi0, (h.cell (World.block_lt_of_cell? w _ xi1)).trans xi1, (h.cell (World.block_lt_of_cell? w _ xp0)).trans xp0, (h.cell (World.block_lt_of_cell? w _ xp1)).trans xp1, blk_frozen (blk_below hb h) 0, ⟨h⟩⟩⟩
  clear Ci0 li0 Ci1 li1 Cp0 lp0 Cp1 lp1 hb hd xi0 xi1 xp0 xp1 hC hg hi hp HRI HRP
  cases b with
  | false =>
    obtain ⟨hbc, _, _, _, _, _, hbf, _⟩ := XS.out w (Below.refl _ _)
    go_enter Tryd.func15, Tryd.ntmps15
    go_wp2_with fail
    go_region
    all_goals go_end0
    all_goals exact ⟨rfl, blk_drew (blk_put HHB.out 0 (.bool false) rfl), (grown_setCell _ _ _ _).trans (grown_of_below (below_drew (Below.refl _ _)) _)⟩
  | true =>
    go_enter Tryd.func15, Tryd.ntmps15
    go_wp2_with fail
    obtain ⟨hbc, hdc, hi2, hi3, hp2, hp3, hbf, _⟩ := XS.out w (Below.refl _ _)
    go_region_law
      (first
        | (go_simp; go_at_call 16
           refine (join_Agree.calls A0 c0 x.f0 A1 c1 x.f1 A2 c2 y.f0 A3 c3 y.f1 _ (Kd.C_below HI0.out.1 (below_drew (Below.refl _ _))) HI0.out.2.1 (Kd.C_below HI0.out.2.2.1 (below_drew (Below.refl _ _))) HI0.out.2.2.2 (Kd.C_below HP0.out.1 (below_drew (Below.refl _ _))) HP0.out.2.1 (Kd.C_below HP0.out.2.2.1 (below_drew (Below.refl _ _))) HP0.out.2.2.2 HGI.out.sch HGI.out.rows HGP.out.sch HGP.out.rows).mono ?_
           rintro e w5 ⟨rfl, hb5⟩
           have HB5 := Aside0.mk (below_step (below_drew (Below.refl w.heap.size w)) hb5)
           have hbc5 := (blk_cell (blk_below HHB.out HB5.out) 0).trans rfl
           have hbf5 := blk_frozen (blk_below HHB.out HB5.out) 0
           clear hb5
           go_wp2_with fail))
    all_goals go_end0
    all_goals exact ⟨rfl, blk_put (blk_below HHB.out HB5.out) 0 (.bool (agreeL x.f0 x.f1 y.f0 y.f1)) rfl, (grown_of_below HB5.out _).trans (grown_setCell _ _ _ _)⟩

end Go.Proofs.YtgejnljpdfjgpaaDoor.Q
/- pass.Settled: do all agree with their parents? Its conditions: the tree and the relations are read at the call; as many relations as bags; the order; sizes. -/
namespace Go.Proofs.YtgejnljpdfjgpaaDoor.Q
open Go.RowKit Go.Proofs Go.Proofs.YtgejnljpdfjgpaaDoorW.PrintWords Go.Proofs.YtgejnljpdfjgpaaDoorW.PrintLast Go.Proofs.YtgejnljpdfjgpaaDoorW.PrintMore
set_option linter.unusedVariables false
set_option linter.unusedSimpArgs false

def allAgree (xs : List S36) (steps : List (Int × Int)) : Bool := steps.all fun s => agreeS (xs.getD s.1.toNat z36) (xs.getD s.2.toNat z36)
theorem allAgree_snoc (xs : List S36) (ps : List (Int × Int)) (s : Int × Int) : allAgree xs (ps ++ [s]) = (allAgree xs ps && agreeS (xs.getD s.1.toNat z36) (xs.getD s.2.toNat z36)) := by
  unfold allAgree
  rw [List.all_append]
  simp

set_option maxHeartbeats 2000000 in
set_option maxRecDepth 100000 in
theorem pass_Settled.calls (kf : Nat) (A0 : Option Addr) (c0 : Nat) (bags : List (List Int)) (A1 : Option Addr) (c1 : Nat) (par : List Int) (A2 : Option Addr) (c2 : Nat) (xs : List S36) (L : List Int) (w : World)
    (hr0 : Kd.C (Kd.slice 3 (Kd.int .i64)) w A0 bags.length bags) (hc0 : bags.length ≤ c0) (hr1 : Kd.C (Kd.int .i64) w A1 par.length par) (hc1 : par.length ≤ c1) (hr2 : Kd.C k36 w A2 xs.length xs)
    (hlen : xs.length = bags.length) (hL0 : place_After.f kf bags par = some L) (hLi : ∀ i ∈ L, 0 ≤ i ∧ i < par.length) (hst : ∀ s ∈ stepsOf par L, 0 ≤ s.1 ∧ s.1.toNat < xs.length ∧ 0 ≤ s.2 ∧ s.2.toNat < xs.length)
    (hgood : ∀ x ∈ xs, RelGood x) :
    Calls Tryd.prog 8 #[.agg #[.slice A0 bags.length c0, .slice A1 par.length c1], .slice A2 xs.length c2] w fun e w' => e = .returned (.bool (allAgree xs (stepsOf par L))) ∧ Below w.heap.size w w' := by
  have HR0 := Aside0.mk hr0
  have HC0 := Aside0.mk hc0
  have HR1 := Aside0.mk hr1
  have HC1 := Aside0.mk hc1
  have HR2 := Aside0.mk hr2
  have HL0 := Aside0.mk hL0
  have HLI := Aside0.mk hLi
  have HST := Aside0.mk hst
  have HGO := Aside0.mk hgood
  have hq2 : ((xs.length : Int) == (bags.length : Int)) = true := by rw [beq_iff_eq]; omega
  have hq : decide ((xs.length : Int) = (bags.length : Int)) = true := decide_eq_true (by omega)
  have hq3 : decide (xs.length = bags.length) = true := decide_eq_true (by omega)
  have hm0 : xs.length ≤ 9223372036854775807 := Kd.C_max hr2
  clear hr0 hc0 hr1 hc1 hr2 hL0 hLi hst hgood hlen
  go_enter Tryd.func8, Tryd.ntmps8
  go_wp2_with fail
  have hb0 : Below w.heap.size w (((w.alloc (.cells #[.slice A0 bags.length c0, .slice A1 par.length c1] 27)).alloc (.cells #[.slice A2 xs.length c2] 28)).alloc (.cells #[.bool true] 4)) := (((Below.refl _ _).alloc (Nat.le_refl _) _).alloc (by simp) _).alloc (by simp; omega) _
  have hbd : (((w.alloc (.cells #[.slice A0 bags.length c0, .slice A1 par.length c1] 27)).alloc (.cells #[.slice A2 xs.length c2] 28)).alloc (.cells #[.bool true] 4)).heap[w.heap.size + 1]? = some (.cells #[.slice A2 xs.length c2] 28 (0, 0)) := blk_alloc (by
    have := heap_alloc_new (w.alloc (.cells #[.slice A0 bags.length c0, .slice A1 par.length c1] 27)) (.cells #[.slice A2 xs.length c2] 28)
    simpa using this) _
  have hbb : (((w.alloc (.cells #[.slice A0 bags.length c0, .slice A1 par.length c1] 27)).alloc (.cells #[.slice A2 xs.length c2] 28)).alloc (.cells #[.bool true] 4)).heap[w.heap.size + 2]? = some (.cells #[.bool true] 4 (0, 0)) := by
    have := heap_alloc_new ((w.alloc (.cells #[.slice A0 bags.length c0, .slice A1 par.length c1] 27)).alloc (.cells #[.slice A2 xs.length c2] 28)) (.cells #[.bool true] 4)
    simpa using this
  have hsz : (((w.alloc (.cells #[.slice A0 bags.length c0, .slice A1 par.length c1] 27)).alloc (.cells #[.slice A2 xs.length c2] 28)).alloc (.cells #[.bool true] 4)).heap.size = w.heap.size + 3 := by simp
  generalize ((w.alloc (.cells #[.slice A0 bags.length c0, .slice A1 par.length c1] 27)).alloc (.cells #[.slice A2 xs.length c2] 28)).alloc (.cells #[.bool true] 4) = W2 at hb0 hbd hbb hsz ⊢
  have HB2 := Aside0.mk hb0
  simp only [World.size_alloc, Nat.add_assoc, Nat.reduceAdd]
  refine (pass_edges.calls kf 0 A0 c0 bags A1 c1 par false 15 #[.pointer (some ⟨w.heap.size + 2, 0, none⟩), .pointer (some ⟨w.heap.size + 1, 0, none⟩)] L L (w.heap.size + 2) W2 (Kd.C_below HR0.out HB2.out) HC0.out (Kd.C_below HR1.out HB2.out) HC1.out HL0.out (by simp) HLI.out (by omega)
    (fun W hW => Kd.C_below HR1.out (pw_below_grown HB2.out (some (w.heap.size + 2)) HB2.out.size hW (fun k hk => by cases hk; omega))) (fun _ _ => rfl)
    (fun ps W => W.heap[w.heap.size + 2]? = some (.cells #[.bool (allAgree xs ps)] 4 (0, 0)) ∧ W.heap[w.heap.size + 1]? = some (.cells #[.slice A2 xs.length c2] 28 (0, 0)) ∧ Below w.heap.size w W)
    ⟨hbb, hbd, HB2.out⟩
    (fun ps W W' hI hb => ⟨blk_below hI.1 hb, blk_below hI.2.1 hb, below_step hI.2.2 hb⟩)
    (fun ps W i p hI hgr hpre hmem => by
      obtain ⟨h1, h2, h3⟩ := hI
      obtain ⟨a1, a2, a3, a4⟩ := HST.out _ hmem
      obtain ⟨i, rfl⟩ := Int.eq_ofNat_of_zero_le a1
      obtain ⟨p, rfl⟩ := Int.eq_ofNat_of_zero_le a3
      have a2 : i < xs.length := a2
      have a4 : p < xs.length := a4
      refine (pass_Settled_1.calls i p (w.heap.size + 2) (w.heap.size + 1) (allAgree xs ps) A2 c2 xs W h1 h2 (Kd.C_below HR2.out h3) a2 a4 HGO.out).mono ?_
      rintro e W' ⟨rfl, h4, h5⟩
      refine ⟨rfl, ⟨by rw [allAgree_snoc]; exact h4, blk_grown h2 h5 (fun e => by injection e; omega), pw_below_grown h3 (some (w.heap.size + 2)) h3.size h5 (fun k hk => by cases hk; omega)⟩, h5⟩)).mono ?_
  rintro e w3 ⟨rfl, ⟨h1, h2, h3⟩, h5⟩
  have hcc := (blk_cell h1 0).trans rfl
  have H3 := Aside0.mk h3
  clear h1 h2 h3 h5 hbd hbb hsz hb0
  go_wp2
  go_ret
  exact ⟨rfl, H3.out⟩

end Go.Proofs.YtgejnljpdfjgpaaDoor.Q
/- law16's shown: the small case works. Its condition: strconv's table reads as it was laid. -/
namespace Go.Proofs.YtgejnljpdfjgpaaDoor.Q
open Go.RowKit Go.Proofs Go.Lib Go.Proofs.YtgejnljpdfjgpaaDoorW.PrintWords Go.Proofs.YtgejnljpdfjgpaaDoorW.PrintLast Go.Proofs.YtgejnljpdfjgpaaDoorW.PrintMore
set_option linter.unusedVariables false
set_option linter.unusedSimpArgs false

/-! #### blocks, one behind the other -/
def allocs (w : World) (os : List Obj) : World := os.foldl (fun w o => w.alloc o) w
theorem allocs_size (os : List Obj) : ∀ w : World, (allocs w os).heap.size = w.heap.size + os.length := by
  induction os with
  | nil => simp [allocs]
  | cons o os ih =>
    intro w
    have := ih (w.alloc o)
    simp only [World.size_alloc] at this
    show (allocs (w.alloc o) os).heap.size = _
    rw [this, List.length_cons]
    omega
theorem allocs_below (os : List Obj) : ∀ w : World, Below w.heap.size w (allocs w os) := by
  induction os with
  | nil => exact fun w => Below.refl _ _
  | cons o os ih => exact fun w => ((Below.refl w.heap.size w).alloc (Nat.le_refl _) o).trans ((ih (w.alloc o)).mono (by simp))
theorem allocs_get (os : List Obj) : ∀ (w : World) (i : Nat) (o : Obj), os[i]? = some o → (allocs w os).heap[w.heap.size + i]? = some o := by
  induction os with
  | nil => intro w i o h; simp at h
  | cons a os ih =>
    intro w i o h
    cases i with
    | zero =>
      obtain rfl : a = o := by simpa using h
      exact ((allocs_below os (w.alloc a)).block _ (by simp)).trans (heap_alloc_new w a)
    | succ i =>
      have := ih (w.alloc a) i o (by simpa using h)
      rw [World.size_alloc, Nat.add_assoc, Nat.add_comm 1 i] at this
      exact this

theorem C_int_blk {W : World} {b : Nat} {xs : List Int} (h : W.heap[b]? = some (.cells (xs.map (Value.int .i64)).toArray 3 (0, 0))) (hl : xs.length ≤ maxLen) : Kd.C (Kd.int .i64) W (some ⟨b, 0, none⟩) xs.length xs := by
  refine ⟨rfl, hl, fun _ => ⟨⟨b, 0, none⟩, rfl, fun j p hp => ⟨[.int .i64 p], rfl, rfl, fun i u hu => ?_⟩⟩⟩
  have hsz : (Kd.int .i64).sz = 1 := rfl
  match i, hu with
  | 0, hu => simp at hu; subst hu; rw [hsz, add0]; exact (blk_cell h _).trans (by simp [hp])
  | n + 1, hu => simp at hu
theorem C_rows_blk {W : World} {b : Nat} {es : List El} (h : W.heap[b]? = some (.cells (es.map (·.1)).toArray 25 (0, 0))) (hl : es.length ≤ maxLen) (he : ∀ p ∈ es, ElR W p) : Kd.C (Kd.slice 3 (Kd.int .i64)) W (some ⟨b, 0, none⟩) es.length (es.map (·.2)) := by
  refine ⟨by simp, hl, fun _ => ⟨⟨b, 0, none⟩, rfl, fun j p hp => ?_⟩⟩
  rw [List.getElem?_map] at hp
  obtain ⟨q, hq, rfl⟩ := Option.map_eq_some_iff.1 hp
  obtain ⟨A1, c1, e1, l1, g1⟩ := he q (List.mem_of_getElem? hq)
  refine ⟨[q.1], rfl, ⟨A1, c1, by rw [e1], l1, g1⟩, fun i u hu => ?_⟩
  have hsz : (Kd.slice 3 (Kd.int .i64)).sz = 1 := rfl
  match i, hu with
  | 0, hu => simp at hu; subst hu; rw [hsz, add0]; exact (blk_cell h _).trans (by simp [hq])
  | n + 1, hu => simp at hu
theorem C_rels_blk {W : World} {b : Nat} {rs : List RelV} (h : W.heap[b]? = some (.cells (relCells rs).toArray 36 (0, 0))) (hl : rs.length ≤ maxLen) (he : ∀ r ∈ rs, RelR W r) : k36.C W (some ⟨b, 0, none⟩) rs.length (rs.map (·.2.2)) := by
  refine ⟨by simp, hl, fun _ => ⟨⟨b, 0, none⟩, rfl, fun j p hp => ?_⟩⟩
  rw [List.getElem?_map] at hp
  obtain ⟨q, hq, rfl⟩ := Option.map_eq_some_iff.1 hp
  obtain ⟨⟨A1, c1, e1, l1, g1⟩, ⟨A2, c2, e2, l2, g2⟩⟩ := he q (List.mem_of_getElem? hq)
  obtain ⟨k1, k2⟩ := relCells_get rs j q hq
  refine ⟨[q.1, q.2.1], rfl, ?_, fun i u hu => ?_⟩
  · have e1 : q.1 = .slice A1 q.2.2.f0.length c1 := e1
    rw [e1, e2]
    exact k36_mk W q.2.2 l1 g1 l2 g2
  · have hsz : k36.sz = 2 := rfl
    rw [hsz]
    match i, hu with
    | 0, hu => simp at hu; subst hu; rw [add0]; exact (blk_cell h _).trans (by simpa using k1)
    | 1, hu => simp at hu; subst hu; rw [add0]; exact (blk_cell h _).trans (by simpa using k2)
    | n + 2, hu => simp at hu

/-! #### the small case, in plain lists -/
def shA : S36 := ⟨[0], [[1], [2]]⟩
def shB : S36 := ⟨[0, 1], [[2, 5], [3, 5]]⟩
theorem meet_a : meetL [0] [0, 1] = [0] := by simp [meetL, mergeL]
theorem meet_b : meetL [0, 1] [0] = [0] := by simp [meetL, mergeL]
theorem sh_up : upL [shA, shB] [(1, 0)] = [⟨[0], [[2]]⟩, shB] := by
  simp [upL, semiAt, semiS, semiL, shA, shB, meet_a, placesL, placeOf, pickL, rd]
theorem sh_down : downL [⟨[0], [[2]]⟩, shB] [(1, 0)] = [⟨[0], [[2]]⟩, ⟨[0, 1], [[2, 5]]⟩] := by
  simp [downL, semiAt, semiS, semiL, shB, meet_b, placesL, placeOf, pickL, rd, List.idxOf_cons]
theorem sort_a : sortI [0] = [0] := by unfold sortI; exact List.mergeSort_of_pairwise (by simp)
theorem sort_b : sortI [0, 1] = [0, 1] := by unfold sortI; exact List.mergeSort_of_pairwise (by simp)
theorem vars_a : varsU [0] = [0] := by unfold varsU; rw [sort_a]; decide
theorem vars_b : varsU [0, 1] = [0, 1] := by unfold varsU; rw [sort_b]; decide
theorem sh_yes : allAgree [⟨[0], [[2]]⟩, ⟨[0, 1], [[2, 5]]⟩] [(1, 0)] = true := by
  simp [allAgree, agreeS, agreeL, projS, projR, vars_a, vars_b, meet_a, meet_b, cutRows, placesL, placeOf, pickL, rd, sortU, insU]
theorem sh_no : allAgree [shA, shB] [(1, 0)] = false := by
  simp [allAgree, agreeS, agreeL, projS, projR, vars_a, vars_b, meet_a, meet_b, cutRows, placesL, placeOf, pickL, rd, sortU, insU, shA, shB, cmpL]
theorem sh_after : place_After.f 60 [[0], [0, 1]] [-1, 0] = some [1, 0] := by decide +kernel
theorem sh_reverse : slices_Reverse_int_int.f 60 [1, 0] = some [0, 1] := by decide +kernel
theorem sh_steps0 : stepsOf [-1, 0] [1, 0] = [(1, 0)] := by decide +kernel
theorem sh_steps1 : stepsOf [-1, 0] [0, 1] = [(1, 0)] := by decide +kernel
theorem two_rels {ra : List RelEl} {x y : S36} (h : ra.map relOf = [x, y]) : ∃ r0 r1, ra = [r0, r1] ∧ relOf r0 = x ∧ relOf r1 = y := by
  match ra, h with
  | [r0, r1], h => simp at h; exact ⟨r0, r1, rfl, h.1, h.2⟩
theorem sh_good : ∀ x ∈ [shA, shB], RelGood x := by
  intro x hx
  simp at hx
  rcases hx with rfl | rfl
  · exact ⟨by simp [shA], by simp [shA], by simp [shA], by simp [shA, in64]⟩
  · exact ⟨by simp [shB], by simp [shB], by simp [shB], by simp [shB, in64]⟩

set_option maxHeartbeats 1000000 in
set_option maxRecDepth 100000 in
theorem pass_Down.refuses (A0 : Option Addr) (n0 c0 : Nat) (A1 : Option Addr) (n1 c1 : Nat) (A2 : Option Addr) (n2 c2 : Nat) (w : World) (hne : n2 ≠ n0) :
    Calls Tryd.prog 10 #[.agg #[.slice A0 n0 c0, .slice A1 n1 c1], .slice A2 n2 c2] w fun e w' => e = .returned (.tuple #[.slice none 0 0, .int .i64 1]) ∧ Below w.heap.size w w' := by
  have hq2 : ((n2 : Int) == (n0 : Int)) = false := by simp; omega
  have hq : decide ((n2 : Int) = (n0 : Int)) = false := decide_eq_false (by omega)
  have hq3 : decide (n2 = n0) = false := decide_eq_false hne
  clear hne
  go_enter Tryd.func10, Tryd.ntmps10
  go_wp2
  go_ret2
  exact ⟨rfl, ((Below.refl _ _).alloc (Nat.le_refl _) _).alloc (by simp) _⟩

def shObjs (n : Nat) : List Obj := [.cells #[.int .i64 0] 3, .cells #[.int .i64 0, .int .i64 1] 3, .cells #[.slice (some ⟨n, 0, none⟩) 1 1, .slice (some ⟨n + 1, 0, none⟩) 2 2] 25, .cells #[.int .i64 (-1), .int .i64 0] 3, .cells #[.slice (some ⟨n + 2, 0, none⟩) 2 2, .slice (some ⟨n + 3, 0, none⟩) 2 2] 27,
    .cells #[.int .i64 0] 3, .cells #[.int .i64 1] 3, .cells #[.int .i64 2] 3, .cells #[.slice (some ⟨n + 6, 0, none⟩) 1 1, .slice (some ⟨n + 7, 0, none⟩) 1 1] 25, .cells #[.int .i64 0, .int .i64 1] 3, .cells #[.int .i64 2, .int .i64 5] 3, .cells #[.int .i64 3, .int .i64 5] 3,
    .cells #[.slice (some ⟨n + 10, 0, none⟩) 2 2, .slice (some ⟨n + 11, 0, none⟩) 2 2] 25, .cells #[.slice (some ⟨n + 5, 0, none⟩) 1 1, .slice (some ⟨n + 8, 0, none⟩) 2 2, .slice (some ⟨n + 9, 0, none⟩) 2 2, .slice (some ⟨n + 12, 0, none⟩) 2 2] 36]

set_option maxHeartbeats 2000000 in
set_option maxRecDepth 100000 in
theorem law16_shown.calls (w : World) (hT : TabOk w) :
    Calls Tryd.prog 5 #[] w fun e w' => e = .returned (.bool true) ∧ Below w.heap.size w w' := by
  have HT := Aside0.mk hT
  clear hT
  go_enter Tryd.func5, Tryd.ntmps5
  go_wp2_with fail
  simp only [Nat.add_assoc, Nat.reduceAdd]
  change Calls _ _ _ (allocs w (shObjs w.heap.size)) _
  have hB0 : Below w.heap.size w (allocs w (shObjs w.heap.size)) := allocs_below _ _
  have hget : ∀ i o, (shObjs w.heap.size)[i]? = some o → (allocs w (shObjs w.heap.size)).heap[w.heap.size + i]? = some o := fun i o h => allocs_get _ w i o h
  have g0 := hget 0 _ rfl
  have g1 := hget 1 _ rfl
  have g2 := hget 2 _ rfl
  have g3 := hget 3 _ rfl
  have g4 := hget 4 _ rfl
  have g5 := hget 5 _ rfl
  have g6 := hget 6 _ rfl
  have g7 := hget 7 _ rfl
  have g8 := hget 8 _ rfl
  have g9 := hget 9 _ rfl
  have g10 := hget 10 _ rfl
  have g11 := hget 11 _ rfl
  have g12 := hget 12 _ rfl
  have g13 := hget 13 _ rfl
  rw [Nat.add_zero] at g0
  clear hget
  generalize allocs w (shObjs w.heap.size) = W0 at *
  have i0 := C_int_blk (xs := [0]) g0 (by decide)
  have i1 := C_int_blk (xs := [0, 1]) g1 (by decide)
  have i3 := C_int_blk (xs := [-1, 0]) g3 (by decide)
  have i5 := C_int_blk (xs := [0]) g5 (by decide)
  have i6 := C_int_blk (xs := [1]) g6 (by decide)
  have i7 := C_int_blk (xs := [2]) g7 (by decide)
  have i9 := C_int_blk (xs := [0, 1]) g9 (by decide)
  have i10 := C_int_blk (xs := [2, 5]) g10 (by decide)
  have i11 := C_int_blk (xs := [3, 5]) g11 (by decide)
  have r2 := C_rows_blk (es := [(.slice (some ⟨w.heap.size, 0, none⟩) 1 1, [0]), (.slice (some ⟨w.heap.size + 1, 0, none⟩) 2 2, [0, 1])]) g2 (by simp [maxLen]) (by
    intro p hp
    simp at hp
    rcases hp with rfl | rfl
    · exact ⟨_, _, rfl, Nat.le_refl _, i0⟩
    · exact ⟨_, _, rfl, Nat.le_refl _, i1⟩)
  have r8 := C_rows_blk (es := [(.slice (some ⟨w.heap.size + 6, 0, none⟩) 1 1, [1]), (.slice (some ⟨w.heap.size + 7, 0, none⟩) 1 1, [2])]) g8 (by simp [maxLen]) (by
    intro p hp
    simp at hp
    rcases hp with rfl | rfl
    · exact ⟨_, _, rfl, Nat.le_refl _, i6⟩
    · exact ⟨_, _, rfl, Nat.le_refl _, i7⟩)
  have r12 := C_rows_blk (es := [(.slice (some ⟨w.heap.size + 10, 0, none⟩) 2 2, [2, 5]), (.slice (some ⟨w.heap.size + 11, 0, none⟩) 2 2, [3, 5])]) g12 (by simp [maxLen]) (by
    intro p hp
    simp at hp
    rcases hp with rfl | rfl
    · exact ⟨_, _, rfl, Nat.le_refl _, i10⟩
    · exact ⟨_, _, rfl, Nat.le_refl _, i11⟩)
  have s13 := C_rels_blk (rs := [(.slice (some ⟨w.heap.size + 5, 0, none⟩) 1 1, .slice (some ⟨w.heap.size + 8, 0, none⟩) 2 2, shA), (.slice (some ⟨w.heap.size + 9, 0, none⟩) 2 2, .slice (some ⟨w.heap.size + 12, 0, none⟩) 2 2, shB)]) g13 (by simp [maxLen]) (by
    intro r hr
    simp at hr
    rcases hr with rfl | rfl
    · exact ⟨⟨_, _, rfl, Nat.le_refl _, i5⟩, ⟨_, _, rfl, Nat.le_refl _, r8⟩⟩
    · exact ⟨⟨_, _, rfl, Nat.le_refl _, i9⟩, ⟨_, _, rfl, Nat.le_refl _, r12⟩⟩)
  have HB0 := Aside0.mk hB0
  have HR2 := Aside0.mk r2
  have HI3 := Aside0.mk i3
  have HS13 := Aside0.mk s13
  have HG4 := Aside0.mk g4
  have XS : Aside0 (∀ W, Below W0.heap.size W0 W → W.cell? ⟨w.heap.size + 4, 0, none⟩ = some (.slice (some ⟨w.heap.size + 2, 0, none⟩) 2 2) ∧ W.cell? ⟨w.heap.size + 4, 1, none⟩ = some (.slice (some ⟨w.heap.size + 3, 0, none⟩) 2 2)) := ⟨fun W h => ⟨(blk_cell (blk_below g4 h) 0).trans rfl, (blk_cell (blk_below g4 h) 1).trans rfl⟩⟩
  have hin : ∀ i ∈ ([1, 0] : List Int), 0 ≤ i ∧ i < (([-1, 0] : List Int).length : Int) := by decide
  have hin2 : ∀ i ∈ ([0, 1] : List Int), 0 ≤ i ∧ i < (([-1, 0] : List Int).length : Int) := by decide
  have hst0 : ∀ s ∈ stepsOf [-1, 0] [1, 0], 0 ≤ s.1 ∧ s.1.toNat < [shA, shB].length ∧ 0 ≤ s.2 ∧ s.2.toNat < [shA, shB].length := by rw [sh_steps0]; decide
  have hst1 : ∀ s ∈ stepsOf [-1, 0] [0, 1], 0 ≤ s.1 ∧ s.1.toNat < [shA, shB].length ∧ 0 ≤ s.2 ∧ s.2.toNat < [shA, shB].length := by rw [sh_steps1]; decide
  have HUP := Aside0.mk (fun (W : World) (hW : Below W0.heap.size W0 W) => pass_Up.calls 60 60 (some ⟨w.heap.size + 2, 0, none⟩) 2 [[0], [0, 1]] (some ⟨w.heap.size + 3, 0, none⟩) 2 [-1, 0] (some ⟨w.heap.size + 13, 0, none⟩) 2 [shA, shB] [1, 0] [1, 0] W (Kd.C_below r2 hW) (Nat.le_refl _) (Kd.C_below i3 hW) (Nat.le_refl _) (Kd.C_below s13 hW) rfl (by decide) sh_after rfl hin hst0 sh_good (HT.out.on (below_step hB0 hW)))
  have HRE := Aside0.mk (fun (W : World) (hW : Below W0.heap.size W0 W) => pass_Reduce.calls 60 60 (some ⟨w.heap.size + 2, 0, none⟩) 2 [[0], [0, 1]] (some ⟨w.heap.size + 3, 0, none⟩) 2 [-1, 0] (some ⟨w.heap.size + 13, 0, none⟩) 2 [shA, shB] [1, 0] [0, 1] W (Kd.C_below r2 hW) (Nat.le_refl _) (Kd.C_below i3 hW) (Nat.le_refl _) (Kd.C_below s13 hW) rfl (by decide) sh_after sh_reverse hin hin2 hst0 hst1 sh_good (HT.out.on (below_step hB0 hW)))
  have HSN := Aside0.mk (fun (W : World) (hW : Below W0.heap.size W0 W) => pass_Settled.calls 60 (some ⟨w.heap.size + 2, 0, none⟩) 2 [[0], [0, 1]] (some ⟨w.heap.size + 3, 0, none⟩) 2 [-1, 0] (some ⟨w.heap.size + 13, 0, none⟩) 2 [shA, shB] [1, 0] W (Kd.C_below r2 hW) (Nat.le_refl _) (Kd.C_below i3 hW) (Nat.le_refl _) (Kd.C_below s13 hW) rfl sh_after hin hst0 sh_good)
  clear g0 g1 g2 g3 g4 g5 g6 g7 g8 g9 g10 g11 g12 g13 i0 i1 i3 i5 i6 i7 i9 i10 i11 r2 r8 r12 s13 hB0 hin hin2 hst0 hst1
  refine (HUP.out W0 (Below.refl _ _)).mono ?_
  rintro e w1 ⟨ga, ra, rfl, hra, hma, hb1⟩
  have hra' : RelsAt w1 W0.heap.size ga ra := hra
  rw [sh_steps0, sh_up] at hma
  obtain ⟨a0, a1, rfl, ea0, ea1⟩ := two_rels hma
  have ca0 := (hra'.cell (i := 0) (r := a0) rfl).2.1
  have ca1 := (hra'.cell (i := 1) (r := a1) rfl).2.1
  obtain ⟨_, _, Aa0, ka0, _, fa0, _, _, _, _⟩ := relOf_reads (hra'.own a0 (by simp))
  obtain ⟨_, _, Aa1, ka1, _, fa1, _, _, _, _⟩ := relOf_reads (hra'.own a1 (by simp))
  rw [fa0, ea0] at ca0
  rw [fa1, ea1] at ca1
  have CA : Aside0 (∀ W, Below w1.heap.size w1 W → W.cell? ⟨ga, 1, none⟩ = some (.slice Aa0 1 ka0) ∧ W.cell? ⟨ga, 3, none⟩ = some (.slice Aa1 2 ka1)) := ⟨fun W h => ⟨(h.cell (World.block_lt_of_cell? w1 _ ca0)).trans ca0, (h.cell (World.block_lt_of_cell? w1 _ ca1)).trans ca1⟩⟩
  have HB1 := Aside0.mk hb1
  clear hra hra' hma ea0 ea1 ca0 ca1 fa0 fa1 hb1
  simp only [List.length_cons, List.length_nil, Nat.zero_add, Nat.reduceAdd]
  obtain ⟨t10, t11⟩ := XS.out _ HB1.out
  go_wp2_with fail
  refine (HRE.out w1 HB1.out).mono ?_
  rintro e w2 ⟨gb, rb, rfl, hrb, hmb, hb2⟩
  rw [sh_steps0, sh_steps1, sh_up, sh_down] at hmb
  have hC := hrb.reads
  rw [hmb] at hC
  have hrl : rb.length = 2 := by have := congrArg List.length hmb; simpa using this
  rw [hrl] at hC
  have HSB := Aside0.mk (fun (W : World) (hW : Below w2.heap.size w2 W) (hW0 : Below W0.heap.size W0 W) => pass_Settled.calls 60 (some ⟨w.heap.size + 2, 0, none⟩) 2 [[0], [0, 1]] (some ⟨w.heap.size + 3, 0, none⟩) 2 [-1, 0] (some ⟨gb, 0, none⟩) 2 [⟨[0], [[2]]⟩, ⟨[0, 1], [[2, 5]]⟩] [1, 0] W (Kd.C_below HR2.out hW0) (Nat.le_refl _) (Kd.C_below HI3.out hW0) (Nat.le_refl _) (Kd.C_below hC hW) rfl sh_after (by decide) (by rw [sh_steps0]; decide) (by
    intro x hx
    simp at hx
    rcases hx with rfl | rfl
    · exact ⟨by simp, by simp, by simp, by simp [in64]⟩
    · exact ⟨by simp, by simp, by simp, by simp [in64]⟩))
  obtain ⟨b0, b1, rfl, eb0, eb1⟩ := two_rels hmb
  have cb1 := (hrb.cell (i := 1) (r := b1) rfl).2.1
  obtain ⟨_, _, Ab1, kb1, _, fb1, _, _, _, _⟩ := relOf_reads (hrb.own b1 (by simp))
  rw [fb1, eb1] at cb1
  have CB : Aside0 (∀ W, Below w2.heap.size w2 W → W.cell? ⟨gb, 3, none⟩ = some (.slice Ab1 1 kb1)) := ⟨fun W h => (h.cell (World.block_lt_of_cell? w2 _ cb1)).trans cb1⟩
  have HB2 := Aside0.mk hb2
  have HB02 := Aside0.mk (below_step HB1.out hb2)
  clear hrb hmb eb0 eb1 cb1 fb1 hb2 hC hrl t10 t11
  simp only [List.length_cons, List.length_nil, Nat.zero_add, Nat.reduceAdd]
  obtain ⟨t10, t11⟩ := XS.out _ HB02.out
  go_wp2_with fail
  refine (pass_Down.refuses (some ⟨w.heap.size + 2, 0, none⟩) 2 2 (some ⟨w.heap.size + 3, 0, none⟩) 2 2 none 0 0 w2 (by decide)).mono ?_
  rintro e w3 ⟨rfl, hb3⟩
  have HB3 := Aside0.mk hb3
  have HB03 := Aside0.mk (below_step HB02.out hb3)
  clear hb3 t10 t11
  obtain ⟨t10, t11⟩ := XS.out _ HB03.out
  obtain ⟨ca0, ca1⟩ := CA.out _ (below_step HB2.out HB3.out)
  have cb1 := CB.out _ HB3.out
  go_wp2_with fail
  refine (HSB.out w3 HB3.out HB03.out).mono ?_
  rintro e w4 ⟨rfl, hb4⟩
  rw [sh_steps0, sh_yes]
  have HB04 := Aside0.mk (below_step HB03.out hb4)
  clear hb4 t10 t11 ca0 ca1 cb1
  obtain ⟨t10, t11⟩ := XS.out _ HB04.out
  go_wp2_with fail
  refine (HSN.out w4 HB04.out).mono ?_
  rintro e w5 ⟨rfl, hb5⟩
  rw [sh_steps0, sh_no]
  have HB05 := Aside0.mk (below_step HB04.out hb5)
  clear hb5 t10 t11
  go_wp2
  go_ret
  exact ⟨rfl, below_step HB0.out HB05.out⟩

end Go.Proofs.YtgejnljpdfjgpaaDoor.Q
