/- A part of the proof of this claim (part 13 of 16): contracts of callees and plain facts, each with its own conditions before its statement. -/
import Derived.Lib.RowBridge
import Derived.Deep.QuietTactic
import Derived.BigQuiet
import Derived.LoopTactic
import Derived.Test.YtgejnljpdfjgpaaDoorGK1
import Derived.Test.YtgejnljpdfjgpaaDoorGK2
import Derived.Test.YtgejnljpdfjgpaaDoorGK3
import Derived.Test.YtgejnljpdfjgpaaDoorGK4
import Derived.Test.YtgejnljpdfjgpaaDoorGK5
import Derived.Test.YtgejnljpdfjgpaaDoorGK11
set_option linter.unusedVariables false
set_option linter.unusedSimpArgs false
namespace Go.Proofs.YtgejnljpdfjgpaaDoor.Q
open Go.RowKit Go.Proofs.YtgejnljpdfjgpaaDoorW.PrintWords Go.Proofs.YtgejnljpdfjgpaaDoorW.PrintLast Go.Proofs.YtgejnljpdfjgpaaDoorW.PrintMore
attribute [local go_sem] max2_int min2_int max_two min_two max_three min_three max_four min_four   -- for this text's walks alone
set_option linter.unusedVariables false
set_option linter.unusedSimpArgs false

/-! ### rel_cut: function 43 -/
mutual
def rel_cut.l0 : Nat → List Int → List (List Int) → List Int → List Int → List Int → Int → Int → Option (List Int × (List (List Int)))
 | 0, _, _, _, _, _, _, _ => none
 | k + 1, x0, x1, x2, x7, x16, x17, x18 => if x18 < x17 then (if 0 ≤ x18 then (if x18 < (x16.length : Int) then ((slices_Index_int_int.f k x0 (rd x16 x18)).bind fun t267 => (if x18 < (x7.length : Int) then (rel_cut.l0 k x0 x1 x2 (x7.set (x18 : Int).toNat t267) x16 x17 (wrap64 (x18 + 1))) else (none))) else (none)) else (none)) else (if 0 ≤ (x1.length : Int) then (if ((x1.length : Int) : Int).toNat ≤ 11728124029610 then (rel_cut.l1 k x2 x7 (List.replicate ((x1.length : Int) : Int).toNat []) x1 (x1.length : Int) 0) else (none)) else (none))
def rel_cut.l1 : Nat → List Int → List Int → List (List Int) → List (List Int) → Int → Int → Option (List Int × (List (List Int)))
 | 0, _, _, _, _, _, _ => none
 | k + 1, x2, x7, x10, x33, x34, x35 => if x35 < x34 then (if 0 ≤ x35 then (if x35 < (x33.length : Int) then ((tuple_Pick.f (rd_L1 x33 x35) x7).bind fun t273 => (if x35 < (x10.length : Int) then (rel_cut.l1 k x2 x7 (x10.set (x35 : Int).toNat t273) x33 x34 (wrap64 (x35 + 1))) else (none))) else (none)) else (none)) else ((slices_Clone_int_int.f x2).bind fun t277 => ((tuple_Sort.f x10).bind fun t280 => (some (t277, t280))))
end
def rel_cut.f (k : Nat) (l0 : List Int) (l1 : List (List Int)) (l2 : List Int) : Option (List Int × (List (List Int))) := if 0 ≤ (l2.length : Int) then (if ((l2.length : Int) : Int).toNat ≤ 35184372088832 then (rel_cut.l0 k l0 l1 l2 (List.replicate ((l2.length : Int) : Int).toNat 0) l2 (l2.length : Int) 0) else (none)) else (none)
theorem rel_cut.mono_l : ∀ k, (∀ y0 y1 y2 y3 y4 y5 y6, LeO (rel_cut.l0 k y0 y1 y2 y3 y4 y5 y6) (rel_cut.l0 (k + 1) y0 y1 y2 y3 y4 y5 y6)) ∧ (∀ y0 y1 y2 y3 y4 y5, LeO (rel_cut.l1 k y0 y1 y2 y3 y4 y5) (rel_cut.l1 (k + 1) y0 y1 y2 y3 y4 y5))
 | 0 => ⟨fun _ _ _ _ _ _ _ r h => by simp [rel_cut.l0] at h, fun _ _ _ _ _ _ r h => by simp [rel_cut.l1] at h⟩
 | k + 1 => by
  obtain ⟨ih0, ih1⟩ := rel_cut.mono_l k
  refine ⟨?_, ?_⟩
  ·intro y0 y1 y2 y3 y4 y5 y6
   unfold rel_cut.l0
   repeat' first
   | (with_reducible exact ih0 _ _ _ _ _ _ _)
   | (with_reducible exact ih1 _ _ _ _ _ _)
   | (with_reducible exact slices_Index_int_int.mono _ _ _)
   | (with_reducible exact LeO.refl _)
   | (with_reducible exact LeO.none _)
   | (with_reducible refine LeO.ite ?_ ?_)
   | (with_reducible refine LeO.bind ?_ (fun _ => ?_))
   | exact ih0 _ _ _ _ _ _ _
   | exact ih1 _ _ _ _ _ _
   | exact slices_Index_int_int.mono _ _ _
   | exact LeO.none _
   | refine LeO.ite ?_ ?_
   | refine LeO.bind ?_ (fun _ => ?_)
  ·intro y0 y1 y2 y3 y4 y5
   unfold rel_cut.l1
   repeat' first
   | (with_reducible exact ih0 _ _ _ _ _ _ _)
   | (with_reducible exact ih1 _ _ _ _ _ _)
   | (with_reducible exact slices_Index_int_int.mono _ _ _)
   | (with_reducible exact LeO.refl _)
   | (with_reducible exact LeO.none _)
   | (with_reducible refine LeO.ite ?_ ?_)
   | (with_reducible refine LeO.bind ?_ (fun _ => ?_))
   | exact ih0 _ _ _ _ _ _ _
   | exact ih1 _ _ _ _ _ _
   | exact slices_Index_int_int.mono _ _ _
   | exact LeO.none _
   | refine LeO.ite ?_ ?_
   | refine LeO.bind ?_ (fun _ => ?_)
theorem rel_cut.mono : ∀ a0 a1 a2 k, LeO (rel_cut.f k a0 a1 a2) (rel_cut.f (k + 1) a0 a1 a2) := by
 intro a0 a1 a2 k
 obtain ⟨ih0, ih1⟩ := rel_cut.mono_l k
 unfold rel_cut.f
 repeat' first
   | (with_reducible exact ih0 _ _ _ _ _ _ _)
   | (with_reducible exact ih1 _ _ _ _ _ _)
   | (with_reducible exact slices_Index_int_int.mono _ _ _)
   | (with_reducible exact LeO.refl _)
   | (with_reducible exact LeO.none _)
   | (with_reducible refine LeO.ite ?_ ?_)
   | (with_reducible refine LeO.bind ?_ (fun _ => ?_))
   | exact ih0 _ _ _ _ _ _ _
   | exact ih1 _ _ _ _ _ _
   | exact slices_Index_int_int.mono _ _ _
   | exact LeO.none _
   | refine LeO.ite ?_ ?_
   | refine LeO.bind ?_ (fun _ => ?_)
set_option maxHeartbeats 8000000 in
set_option maxRecDepth 100000 in
theorem rel_cut.calls (k : Nat) (A0 : Option Addr) (c0 : Nat) (l0 : List Int) (A1 : Option Addr) (c1 : Nat) (l1 : List (List Int)) (A2 : Option Addr) (c2 : Nat) (l2 : List Int) (r1 : List Int) (r2 : List (List Int)) (w : World) (hr0 : Kd.C (Kd.int .i64) w A0 l0.length l0) (hc0 : l0.length ≤ c0) (hr1 : Kd.C (Kd.slice 3 (Kd.int .i64)) w A1 l1.length l1) (hc1 : l1.length ≤ c1) (hr2 : Kd.C (Kd.int .i64) w A2 l2.length l2) (hc2 : l2.length ≤ c2) (h : rel_cut.f k l0 l1 l2 = some (r1, r2)) :
  Calls Tryd.prog 43 #[.slice A0 l0.length c0, .slice A1 l1.length c1, .slice A2 l2.length c2] w fun e w' => ∃ v0_ v1_ : Value, e = .returned (.agg #[v0_, v1_]) ∧ Kd.R (Kd.int .i64) 3 w' w.heap.size (fun _ => True) v0_ r1 ∧ Kd.S (Kd.slice 3 (Kd.int .i64)) 25 w' w.heap.size (fun k_ => some k_ ≠ (v0_ : Value).ownBlock) v1_ r2 ∧ Below w.heap.size w w' := by
 have hu36 := Tryd.underlying36
 have HR0 := Aside0.mk hr0
 have HC0 := Aside0.mk hc0
 clear hr0 hc0
 have HR1 := Aside0.mk hr1
 have HC1 := Aside0.mk hc1
 clear hr1 hc1
 have HR2 := Aside0.mk hr2
 have HC2 := Aside0.mk hc2
 clear hr2 hc2
 have HB := Aside0.mk (Below.refl w.heap.size w)
 have H : (if 0 ≤ (l2.length : Int) then (if ((l2.length : Int) : Int).toNat ≤ 35184372088832 then (rel_cut.l0 k l0 l1 l2 (List.replicate ((l2.length : Int) : Int).toNat 0) l2 (l2.length : Int) 0) else (none)) else (none)) = some (r1, r2) := h
 clear h
 by_cases c4 : 0 ≤ (l2.length : Int)
 ·rw [if_pos c4] at H
  have c4b0 := eq_true c4
  have c4b1 : decide (0 ≤ (l2.length : Int)) = true := decide_eq_true c4
  clear c4
  by_cases c5 : ((l2.length : Int) : Int).toNat ≤ 35184372088832
  ·rw [if_pos c5] at H
   have c5b0 := eq_true c5
   have c5b1 : decide (((l2.length : Int) : Int).toNat ≤ 35184372088832) = true := decide_eq_true c5
   clear c5
   obtain ⟨y263, hy263⟩ : ∃ y_ : List Int, y_ = (List.replicate ((l2.length : Int) : Int).toNat 0) := ⟨_, rfl⟩
   replace H : (rel_cut.l0 k l0 l1 l2 y263 l2 (l2.length : Int) 0) = some (r1, r2) := by first | (rw [hy263]; with_reducible exact H) | (have H2_ := (Option.bind_some _ _).symm.trans H; rw [hy263]; with_reducible exact H2_) | (have H2_ := (Option.bind_some _ _).symm.trans H; with_reducible exact H2_) | with_reducible exact H | (rw [hy263]; exact H) | exact H
   have Ny263 := Aside0.mk hy263
   clear hy263
   have H' := Aside0.mk H
   clear H
   go_enter Tryd.func43, Tryd.ntmps43
   go_wp2_with (first | ((with_reducible refine gate_dst (N := 6) rfl ?_); refine box_event ?hg (N := 6) ?hd (cs := #[.slice none 0 0, .slice none 0 0]) (t := 36) ?hr ?_; (case hd => rfl); (case hg => rfl); (case hr => first | (go_simp; done) | (go_simp; rfl)); intro gb262 hg w6 hbox hb; have n0_ := Aside0.mk (below_step (by repeat (first | (with_reducible first | exact HB.out | apply below_alloc | apply pw_below_drewN | apply below_drew1) | exact HB.out)) hb); have n1_ := Aside0.mk (hbox); have n2_ := Aside0.mk ((by rw [hg]; exact (below_size (by repeat (first | (with_reducible first | exact HB.out | apply below_alloc | apply pw_below_drewN | apply below_drew1) | exact HB.out))) : w.heap.size ≤ gb262)); have n3_ := Aside0.mk ((by rw [hg]; exact (below_size (by repeat (first | (with_reducible first | exact HB.out | apply below_alloc | apply pw_below_drewN | apply below_drew1) | exact HB.out))) : w.heap.size ≤ gb262)); clear HB; have HB := n0_; have BK262 := n1_; have GW262 := n2_; have GE262 := n3_; clear n0_ n1_ n2_ n3_; clear hb hbox hg) | ((with_reducible refine gate_dst (N := 15) rfl ?_); refine Kd.R_make (Kd.int .i64) _ 3 rfl (N := 15) rfl 25 _ _ rfl (l2.length : Int) rfl rfl Tryd.underlying25 (.int .i64 0) 8 info3 rfl (by decide) (by omega) 0 (ok := fun _ => True) (okp := fun _ => True) rfl (fun _ hk => hk) trivial (of_decide_eq_true (by first | (with_reducible assumption) | assumption)) (Nat.le_trans (Nat.mul_le_mul_right _ (of_decide_eq_true (by first | (with_reducible assumption) | assumption) : (l2.length : Int).toNat ≤ 35184372088832)) (by omega)) (Below.refl _ _) (Nat.le_refl _) ?_; intro v264 w7 ho8 hb hg_ hnew_; clear hg_ hnew_; (first | rw [← Ny263.out] at ho8 | (simp only [Int.reduceToNat] at ho8; rw [← Ny263.out] at ho8)); have n0_ := Aside0.mk (Kd.R_lower ho8 (below_size (by repeat (first | (with_reducible first | exact HB.out | apply below_alloc | apply pw_below_drewN | apply below_drew1 | refine below_set ?_ GE262.out) | exact HB.out)))); have n1_ := Aside0.mk (blk_below (g := gb262) (o := .cells #[.slice none 0 0, .slice none 0 0] 36 (0, 0)) (by (with_reducible repeat (first | refine blk_drewN ?_ _ | refine blk_drew ?_ | refine blk_alloc ?_ _)); exact BK262.out) hb); have n2_ := Aside0.mk (below_step (by repeat (first | (with_reducible first | exact HB.out | apply below_alloc | apply pw_below_drewN | apply below_drew1 | refine below_set ?_ GE262.out) | exact HB.out)) hb); clear BK262; clear HB; have HO265 := n0_; have BK262 := n1_; have HB := n2_; clear n0_ n1_ n2_; clear hb ho8))
   go_loopg [18] k (fun kq v18 w' => ∃ (x7_1 : List Int) (x18_1 : Int), v18 = .int .i64 x18_1 ∧ Aside0 (rel_cut.l0 kq l0 l1 l2 x7_1 l2 (l2.length : Int) x18_1 = some (r1, r2)) ∧ Aside0 (kq ≤ k) ∧ Aside0 (Kd.R (Kd.int .i64) 3 w' w.heap.size (fun _ => True) v264 x7_1) ∧ Aside0 (w'.heap[gb262]? = some (.cells #[(.slice none 0 0), (.slice none 0 0)] 36 (0, 0))) ∧ Aside0 (Below w.heap.size w w'))
   case atStart => exact ⟨(y263), (0), (by first | rfl | (simp; done) | (simp [*]; done)), H', ⟨Nat.le_refl _⟩, ⟨by (with_reducible repeat (first | apply Kd.R_alloc | apply Kd.R_drewN | apply Kd.R_drew)); exact HO265.out⟩, ⟨by (with_reducible repeat (first | refine blk_drewN ?_ _ | refine blk_drew ?_ | refine blk_alloc ?_ _)); exact BK262.out⟩, ⟨by repeat (first | (with_reducible first | exact HB.out | apply below_alloc | apply pw_below_drewN | apply below_drew1 | refine below_set ?_ GE262.out) | exact HB.out)⟩⟩
   case round =>
    clear H'
    try clear c1
    try clear c2
    try clear p2
    try clear c4
    try clear c4b0
    try clear c4b1
    try clear c5
    try clear c5b0
    try clear c5b1
    obtain ⟨x7_1, x18_1, rfl, HA, HK1, HO_7, BK262, HB⟩ := hrel
    cases gk with
    | zero => exact absurd HA.out (by simp [rel_cut.l0])
    | succ k1 =>
     have H := HA.out
     clear HA
     simp only [rel_cut.l0] at H
     by_cases c9 : x18_1 < (l2.length : Int)
     ·rw [if_pos c9] at H
      have c9b0 : decide (x18_1 < (l2.length : Int)) = true := decide_eq_true c9
      clear c9
      by_cases c10 : 0 ≤ x18_1
      ·rw [if_pos c10] at H
       have c10b0 : decide (0 ≤ x18_1) = true := decide_eq_true c10
       clear c10
       by_cases c11 : x18_1 < (l2.length : Int)
       ·rw [if_pos c11] at H
        have c11b0 : decide (x18_1 < (l2.length : Int)) = true := decide_eq_true c11
        clear c11
        replace H := Option.bind_eq_some_iff.mp H
        obtain ⟨t267, A120, H⟩ := H
        replace H : (if x18_1 < (x7_1.length : Int) then (rel_cut.l0 k1 l0 l1 l2 (x7_1.set (x18_1 : Int).toNat t267) l2 (l2.length : Int) (wrap64 (x18_1 + 1))) else (none)) = some (r1, r2) := H
        have A12 := Aside0.mk A120
        clear A120
        by_cases c13 : x18_1 < (x7_1.length : Int)
        ·rw [if_pos c13] at H
         have c13b0 : decide (x18_1 < (x7_1.length : Int)) = true := decide_eq_true c13
         clear c13
         obtain ⟨y268, hy268⟩ : ∃ y_ : List Int, y_ = (x7_1.set (x18_1 : Int).toNat t267) := ⟨_, rfl⟩
         replace H : (rel_cut.l0 k1 l0 l1 l2 y268 l2 (l2.length : Int) (wrap64 (x18_1 + 1))) = some (r1, r2) := by first | (rw [hy268]; with_reducible exact H) | (have H2_ := (Option.bind_some _ _).symm.trans H; rw [hy268]; with_reducible exact H2_) | (have H2_ := (Option.bind_some _ _).symm.trans H; with_reducible exact H2_) | with_reducible exact H | (rw [hy268]; exact H) | exact H
         have Ny268 := Aside0.mk hy268
         clear hy268
         have H' := Aside0.mk H
         clear H
         have p266 : 0 ≤ (x18_1 : Int) := of_decide_eq_true (by first | (with_reducible assumption) | assumption)
         have q266 : x18_1 < (l2.length : Int) := of_decide_eq_true (by first | (with_reducible assumption) | assumption)
         obtain ⟨ad266, e266, hx266_0⟩ := Kd.at_int HR2.out x18_1 p266 q266
         cases e266
         replace hx266_0 := (HB.out.cell (World.block_lt_of_cell? w _ hx266_0)).trans hx266_0
         replace p266 := eq_true p266
         replace q266 := eq_true q266
         go_wp2_with (first | ((with_reducible refine gate_callee (f := 36) rfl ?_); refine goesL_ (some 27) rfl rfl Tryd.func36 (by kernel_rfl) rfl #[.slice A0 l0.length c0, .int .i64 (rd l2 x18_1)] rfl (by (try simp only [List.map_toArray, List.map_cons, List.map_nil]); first | done | rfl | (simp only [List.length_drop, List.length_take]; rfl)) ?_; (with_reducible refine (slices_Index_int_int.calls k1 _ _ l0 (rd l2 x18_1) t267 _ ?side1 ?side2 A12.out).mono ?_); (case side1 => repeat (first | exact (Kd.C_below HR0.out HB.out) | (with_reducible refine Kd.C_alloc ?_ _) | (with_reducible refine Kd.C_drewN ?_ _) | (with_reducible refine Kd.C_drew ?_))); (case side2 => exact HC0.out); rintro e w' ⟨rfl, ⟨nd, rfl⟩⟩; refine ⟨_, rfl, ?_⟩; (try (rw [drewN_self wr]; generalize hq_ : World.drewN wr _ = wr; have n0_ : Aside0 (Kd.R (Kd.int .i64) 3 wr w.heap.size (fun _ => True) v264 x7_1) := ⟨by rw [← hq_]; exact (by (with_reducible repeat (first | apply Kd.R_alloc | apply Kd.R_drewN | apply Kd.R_drew)); exact HO_7.out)⟩; have n1_ : Aside0 (wr.heap[gb262]? = some (.cells #[.slice none 0 0, .slice none 0 0] 36 (0, 0))) := ⟨by rw [← hq_]; exact (by (with_reducible repeat (first | refine blk_drewN ?_ _ | refine blk_drew ?_ | refine blk_alloc ?_ _)); exact BK262.out)⟩; have n2_ : Aside0 (Below w.heap.size w wr) := ⟨by rw [← hq_]; exact (by repeat (first | (with_reducible first | exact HB.out | apply below_alloc | apply pw_below_drewN | apply below_drew1 | refine below_set ?_ GE262.out) | exact HB.out))⟩; clear HO_7 BK262 HB hq_; have HO_7 := n0_; have BK262 := n1_; have HB := n2_; clear n0_ n1_ n2_)); have p14 : 0 ≤ (x18_1 : Int) := of_decide_eq_true (by first | (with_reducible assumption) | assumption); have q14 : (x18_1 : Int) < ((x7_1.length : Int) : Int) := of_decide_eq_true (by first | (with_reducible assumption) | assumption); obtain ⟨go14, co14, eo14, gb14, gl14, cl14, HG14⟩ := Kd.R_form HO_7.out (by omega); (first | cases eo14 | (injection eo14 with ea_ en_ ec_; (first | subst ea_ | (injection ea_ with ea_; subst ea_)); subst ec_; clear en_)); have GB14 := Aside0.mk gb14; have GG14 := Aside0.mk HG14; clear gb14 gl14 HG14; obtain ⟨hx14_0, hf14_0⟩ := Kd.R_celln 0 HO_7.out (x18_1 : Int) p14 q14; replace p14 := eq_true p14; replace q14 := eq_true q14; obtain ⟨hy15_, hz15_⟩ := Kd.R_celln 0 HO_7.out (x18_1 : Int) (of_decide_eq_true (by first | (with_reducible assumption) | assumption)) (of_decide_eq_true (by first | (with_reducible assumption) | assumption)); have HP15 := Kd.R_putg HO_7.out (x18_1 : Int) t267) | ((with_reducible refine gate_store (t := 3) (p := 28) rfl ?_); refine store_event (t := 3) (p := 28) (v := ?vo_w16) (w1 := (wr.setCell ⟨go14, (x18_1 : Int).toNat, none⟩ (.int .i64 t267))) ?hg ?ho ?hn ?hr ?_; (case ho => rfl); (case hg => rfl); (case hn => rfl); (case hr => first | (go_simp; done) | (go_simp; rfl)); intro w16 hw; have hg : wr.grownBy w16 (some go14) := (by rw [hw]; exact HP15.2); have hp_ : Kd.R (Kd.int .i64) 3 w16 w.heap.size (fun _ => True) (.slice (some ⟨go14, 0, none⟩) x7_1.length co14) y268 := (by rw [hw, Ny268.out]; exact HP15.1); clear HP15; have n0_ := Aside0.mk (hp_); have n1_ := Aside0.mk (blk_grown (g := gb262) (o := .cells #[.slice none 0 0, .slice none 0 0] 36 (0, 0)) (by (with_reducible repeat (first | refine blk_drewN ?_ _ | refine blk_drew ?_ | refine blk_alloc ?_ _)); exact BK262.out) hg (Kd.R_ne HO_7.out BK262.out (by decide))); have n2_ := Aside0.mk ((by rw [hw]; exact below_set (HB.out) GB14.out : Below w.heap.size w w16)); clear HO_7; clear BK262; clear HB; have HO_7 := n0_; have BK262 := n1_; have HB := n2_; clear n0_ n1_ n2_; clear hg hw hp_))
         go_roundg k1
         case measure => have := HK1.out; omega
         case rel => exact ⟨(y268), (wrap64 (x18_1 + 1)), (by first | rfl | (simp; done) | (simp [*]; done)), H', ⟨by have := HK1.out; omega⟩, ⟨by (with_reducible repeat (first | apply Kd.R_alloc | apply Kd.R_drewN | apply Kd.R_drew)); exact HO_7.out⟩, ⟨by (with_reducible repeat (first | refine blk_drewN ?_ _ | refine blk_drew ?_ | refine blk_alloc ?_ _)); exact BK262.out⟩, ⟨by repeat (first | (with_reducible first | exact HB.out | apply below_alloc | apply pw_below_drewN | apply below_drew1 | refine below_set ?_ GE262.out) | exact HB.out)⟩⟩
        ·rw [if_neg c13] at H
         exact absurd H (by simp)
       ·rw [if_neg c11] at H
        exact absurd H (by simp)
      ·rw [if_neg c10] at H
       exact absurd H (by simp)
     ·rw [if_neg c9] at H
      have c9b0 : decide (x18_1 < (l2.length : Int)) = false := decide_eq_false c9
      clear c9
      by_cases c17 : 0 ≤ (l1.length : Int)
      ·rw [if_pos c17] at H
       have c17b0 := eq_true c17
       have c17b1 : decide (0 ≤ (l1.length : Int)) = true := decide_eq_true c17
       clear c17
       by_cases c18 : ((l1.length : Int) : Int).toNat ≤ 11728124029610
       ·rw [if_pos c18] at H
        have c18b0 := eq_true c18
        have c18b1 : decide (((l1.length : Int) : Int).toNat ≤ 11728124029610) = true := decide_eq_true c18
        clear c18
        obtain ⟨y269, hy269⟩ : ∃ y_ : List (List Int), y_ = (List.replicate ((l1.length : Int) : Int).toNat []) := ⟨_, rfl⟩
        replace H : (rel_cut.l1 k1 l2 x7_1 y269 l1 (l1.length : Int) 0) = some (r1, r2) := by first | (rw [hy269]; with_reducible exact H) | (have H2_ := (Option.bind_some _ _).symm.trans H; rw [hy269]; with_reducible exact H2_) | (have H2_ := (Option.bind_some _ _).symm.trans H; with_reducible exact H2_) | with_reducible exact H | (rw [hy269]; exact H) | exact H
        have Ny269 := Aside0.mk hy269
        clear hy269
        have H' := Aside0.mk H
        clear H
        go_wp2_with (first | ((with_reducible refine gate_dst (N := 32) rfl ?_); refine Kd.S_make (Kd.slice 3 (Kd.int .i64)) _ 25 rfl (N := 32) rfl 24 _ _ rfl (l1.length : Int) rfl rfl Tryd.underlying24 (.slice none 0 0) 24 info25 rfl (by decide) (by omega) [] (ok := fun _ => True) (okp := fun _ => True) ⟨_, rfl, Kd.R_nil _ _ _ _ _⟩ (fun _ hk => hk) trivial (of_decide_eq_true (by first | (with_reducible assumption) | assumption)) (Nat.le_trans (Nat.mul_le_mul_right _ (of_decide_eq_true (by first | (with_reducible assumption) | assumption) : (l1.length : Int).toNat ≤ 11728124029610)) (by omega)) (Below.refl _ _) (Nat.le_refl _) ?_; intro v270 w19 ho20 hb hg_ hnew_; clear hg_ hnew_; (first | rw [← Ny269.out] at ho20 | (simp only [Int.reduceToNat] at ho20; rw [← Ny269.out] at ho20)); have n0_ := Aside0.mk (Kd.R_below (by (with_reducible repeat (first | apply Kd.R_alloc | apply Kd.R_drewN | apply Kd.R_drew)); exact HO_7.out) hb); have n1_ := Aside0.mk (Kd.S_lower (Kd.S_new' ho20 (Kd.R_lt (by (with_reducible repeat (first | apply Kd.R_alloc | apply Kd.R_drewN | apply Kd.R_drew)); exact HO_7.out))) (below_size (by repeat (first | (with_reducible first | exact HB.out | apply below_alloc | apply pw_below_drewN | apply below_drew1 | refine below_set ?_ GE262.out) | exact HB.out)))); have n2_ := Aside0.mk (blk_below (g := gb262) (o := .cells #[.slice none 0 0, .slice none 0 0] 36 (0, 0)) (by (with_reducible repeat (first | refine blk_drewN ?_ _ | refine blk_drew ?_ | refine blk_alloc ?_ _)); exact BK262.out) hb); have n3_ := Aside0.mk (below_step (by repeat (first | (with_reducible first | exact HB.out | apply below_alloc | apply pw_below_drewN | apply below_drew1 | refine below_set ?_ GE262.out) | exact HB.out)) hb); clear HO_7; clear BK262; clear HB; have HO_7 := n0_; have HO271 := n1_; have BK262 := n2_; have HB := n3_; clear n0_ n1_ n2_ n3_; clear hb ho20))
        go_loopg [35] k1 (fun kq v35 w' => ∃ (x10_2 : List (List Int)) (x35_2 : Int), v35 = .int .i64 x35_2 ∧ Aside0 (rel_cut.l1 kq l2 x7_1 x10_2 l1 (l1.length : Int) x35_2 = some (r1, r2)) ∧ Aside0 (kq ≤ k1) ∧ Aside0 (Kd.R (Kd.int .i64) 3 w' w.heap.size (fun _ => True) v264 x7_1) ∧ Aside0 (Kd.S (Kd.slice 3 (Kd.int .i64)) 25 w' w.heap.size (fun k_ => some k_ ≠ (v264 : Value).ownBlock) v270 x10_2) ∧ Aside0 (w'.heap[gb262]? = some (.cells #[(.slice none 0 0), (.slice none 0 0)] 36 (0, 0))) ∧ Aside0 (Below w.heap.size w w'))
        case atStart => exact ⟨(y269), (0), (by first | rfl | (simp; done) | (simp [*]; done)), H', ⟨Nat.le_refl _⟩, ⟨by (with_reducible repeat (first | apply Kd.R_alloc | apply Kd.R_drewN | apply Kd.R_drew)); exact HO_7.out⟩, ⟨by (with_reducible repeat (first | apply Kd.S_alloc | apply Kd.S_drewN | apply Kd.S_drew)); exact Kd.S_mono HO271.out (fun _ hk => hk.2)⟩, ⟨by (with_reducible repeat (first | refine blk_drewN ?_ _ | refine blk_drew ?_ | refine blk_alloc ?_ _)); exact BK262.out⟩, ⟨by repeat (first | (with_reducible first | exact HB.out | apply below_alloc | apply pw_below_drewN | apply below_drew1 | refine below_set ?_ GE262.out) | exact HB.out)⟩⟩
        case round =>
         clear H'
         try clear c1
         try clear p1
         try clear q1
         try clear hx1
         try clear c2
         try clear p2
         try clear q2
         try clear hx2
         try clear c3
         try clear c4
         try clear c4b0
         try clear c4b1
         try clear c5
         try clear c5b0
         try clear c5b1
         try clear p6
         try clear c9
         try clear c9b0
         try clear c10
         try clear c10b0
         try clear c11
         try clear c11b0
         try clear c13
         try clear c13b0
         try clear p14
         try clear q14
         try clear hx14
         try clear hf14
         try clear c17
         try clear c17b0
         try clear c17b1
         try clear c18
         try clear c18b0
         try clear c18b1
         try clear hx14_0
         try clear hx266_0
         try clear p14
         try clear p2
         try clear p266
         try clear q14
         try clear q266
         obtain ⟨x10_2, x35_2, rfl, HA, HK2, HO_7, HO_10, BK262, HB⟩ := hrel
         cases gk with
         | zero => exact absurd HA.out (by simp [rel_cut.l1])
         | succ k2 =>
          have H := HA.out
          clear HA
          simp only [rel_cut.l1] at H
          by_cases c21 : x35_2 < (l1.length : Int)
          ·rw [if_pos c21] at H
           have c21b0 : decide (x35_2 < (l1.length : Int)) = true := decide_eq_true c21
           clear c21
           by_cases c22 : 0 ≤ x35_2
           ·rw [if_pos c22] at H
            have c22b0 : decide (0 ≤ x35_2) = true := decide_eq_true c22
            clear c22
            by_cases c23 : x35_2 < (l1.length : Int)
            ·rw [if_pos c23] at H
             have c23b0 : decide (x35_2 < (l1.length : Int)) = true := decide_eq_true c23
             clear c23
             replace H := Option.bind_eq_some_iff.mp H
             obtain ⟨t273, A240, H⟩ := H
             replace H : (if x35_2 < (x10_2.length : Int) then (rel_cut.l1 k2 l2 x7_1 (x10_2.set (x35_2 : Int).toNat t273) l1 (l1.length : Int) (wrap64 (x35_2 + 1))) else (none)) = some (r1, r2) := H
             have A24 := Aside0.mk A240
             clear A240
             by_cases c25 : x35_2 < (x10_2.length : Int)
             ·rw [if_pos c25] at H
              have c25b0 : decide (x35_2 < (x10_2.length : Int)) = true := decide_eq_true c25
              clear c25
              obtain ⟨y276, hy276⟩ : ∃ y_ : List (List Int), y_ = (x10_2.set (x35_2 : Int).toNat t273) := ⟨_, rfl⟩
              replace H : (rel_cut.l1 k2 l2 x7_1 y276 l1 (l1.length : Int) (wrap64 (x35_2 + 1))) = some (r1, r2) := by first | (rw [hy276]; with_reducible exact H) | (have H2_ := (Option.bind_some _ _).symm.trans H; rw [hy276]; with_reducible exact H2_) | (have H2_ := (Option.bind_some _ _).symm.trans H; with_reducible exact H2_) | with_reducible exact H | (rw [hy276]; exact H) | exact H
              have Ny276 := Aside0.mk hy276
              clear hy276
              have H' := Aside0.mk H
              clear H
              have p272 : 0 ≤ (x35_2 : Int) := of_decide_eq_true (by first | (with_reducible assumption) | assumption)
              have q272 : x35_2 < (l1.length : Int) := of_decide_eq_true (by first | (with_reducible assumption) | assumption)
              obtain ⟨ad272, A272_0, c272_0, e272, hx272_0, hl272_0, hi272_0⟩ := at_L1 HR1.out x35_2 p272 q272
              cases e272
              replace hx272_0 := (HB.out.cell (World.block_lt_of_cell? w _ hx272_0)).trans hx272_0
              have HR272_0 := Aside0.mk hi272_0
              have HC272_0 := Aside0.mk hl272_0
              clear hi272_0 hl272_0
              replace p272 := eq_true p272
              replace q272 := eq_true q272
              obtain ⟨Ao27, co27, eo27⟩ := Kd.R_slice HO_7.out
              subst eo27
              go_wp2_with (first | ((with_reducible refine gate_callee (f := 34) rfl ?_); refine goesL_ (some 44) rfl rfl Tryd.func34 (by kernel_rfl) rfl #[.slice A272_0 (rd_L1 l1 x35_2).length c272_0, .slice Ao27 x7_1.length co27] rfl (by (try simp only [List.map_toArray, List.map_cons, List.map_nil]); first | done | rfl | (simp only [List.length_drop, List.length_take]; rfl)) ?_; (with_reducible refine (tuple_Pick.calls _ _ (rd_L1 l1 x35_2) _ _ x7_1 t273 _ ?side1 ?side2 ?side3 ?side4 A24.out).mono ?_); (case side1 => repeat (first | exact (Kd.C_below HR272_0.out HB.out) | (with_reducible refine Kd.C_alloc ?_ _) | (with_reducible refine Kd.C_drewN ?_ _) | (with_reducible refine Kd.C_drew ?_))); (case side2 => exact HC272_0.out); (case side3 => repeat (first | exact (Kd.R_reads' HO_7.out).2.2 | (with_reducible refine Kd.C_alloc ?_ _) | (with_reducible refine Kd.C_drewN ?_ _) | (with_reducible refine Kd.C_drew ?_))); (case side4 => exact (Kd.R_reads' HO_7.out).2.1); rintro e w28 ⟨v274, rfl, ho0, hb⟩; refine ⟨_, rfl, ?_⟩; have n0_ := Aside0.mk (Kd.R_elder' (by (with_reducible repeat (first | apply Kd.R_alloc | apply Kd.R_drewN | apply Kd.R_drew)); exact HO_7.out) (Kd.R_base ho0) hb); have n1_ := Aside0.mk (Kd.S_elder' (by (with_reducible repeat (first | apply Kd.S_alloc | apply Kd.S_drewN | apply Kd.S_drew)); exact HO_10.out) (Kd.R_base ho0) hb); have n2_ := Aside0.mk (Kd.R_lower (Kd.R_new' ho0 (Kd.R_lt (by (with_reducible repeat (first | apply Kd.R_alloc | apply Kd.R_drewN | apply Kd.R_drew)); exact HO_7.out))) (below_size (by repeat (first | (with_reducible first | exact HB.out | apply below_alloc | apply pw_below_drewN | apply below_drew1 | refine below_set ?_ GE262.out) | exact HB.out)))); have n3_ := Aside0.mk (blk_below (g := gb262) (o := .cells #[.slice none 0 0, .slice none 0 0] 36 (0, 0)) (by (with_reducible repeat (first | refine blk_drewN ?_ _ | refine blk_drew ?_ | refine blk_alloc ?_ _)); exact BK262.out) hb); have n4_ := Aside0.mk (below_step (by repeat (first | (with_reducible first | exact HB.out | apply below_alloc | apply pw_below_drewN | apply below_drew1 | refine below_set ?_ GE262.out) | exact HB.out)) hb); clear HO_7; clear HO_10; clear BK262; clear HB; have HO_7 := n0_; have HO_10 := n1_; have HO275 := n2_; have BK262 := n3_; have HB := n4_; clear n0_ n1_ n2_ n3_ n4_; (try clear hb); (try clear hb2); (try clear hk); (try clear hi); (try clear ho0); have p26 : 0 ≤ (x35_2 : Int) := of_decide_eq_true (by first | (with_reducible assumption) | assumption); have q26 : (x35_2 : Int) < ((x10_2.length : Int) : Int) := of_decide_eq_true (by first | (with_reducible assumption) | assumption); obtain ⟨go26, co26, eo26, gb26, gl26, cl26, HG26⟩ := Kd.S_form HO_10.out (by omega); (first | cases eo26 | (injection eo26 with ea_ en_ ec_; (first | subst ea_ | (injection ea_ with ea_; subst ea_)); subst ec_; clear en_)); have GB26 := Aside0.mk gb26; have GG26 := Aside0.mk HG26; clear gb26 gl26 HG26; obtain ⟨_, ce26, hcl26, hM26, hcc26, hfr26, _, _⟩ := Kd.S_elem HO_10.out [] (x35_2 : Int) p26 q26; obtain ⟨ve26_0, rfl, ge26_0⟩ := hM26; have hx26_0 := hcc26 0 _ rfl; have hf26_0 := hfr26 0; (try simp only [show ((Kd.slice 3 (Kd.int .i64))).sz = 1 from rfl, Nat.mul_one, Nat.add_zero] at hx26_0); (try simp only [show ((Kd.slice 3 (Kd.int .i64))).sz = 1 from rfl, Nat.mul_one, Nat.add_zero] at hf26_0); ((try clear hcl26); (try clear hcc26); (try clear hfr26); (try clear hM26)); replace p26 := eq_true p26; replace q26 := eq_true q26; have HX29 := Aside0.mk (show Kd.S (Kd.slice 3 (Kd.int .i64)) 25 w28 w.heap.size (fun k_ => ((fun k_ => some k_ ≠ (.slice Ao27 x7_1.length co27 : Value).ownBlock)) k_ ∧ ¬ ((fun k_ => some k_ = (v274 : Value).ownBlock)) k_) (.slice (some ⟨go26, 0, none⟩) x10_2.length co26) x10_2 from (by (with_reducible repeat (first | apply Kd.S_alloc | apply Kd.S_drewN | apply Kd.S_drew)); exact Kd.S_mono HO_10.out (fun k_ hk => ⟨hk.1, fun e_ => hk.2 e_⟩))); obtain ⟨oki29, ce29, hcl29, hM29, hcc29, hfr29, hoki29, hH29⟩ := Kd.S_elem HX29.out [] (x35_2 : Int) (of_decide_eq_true (by first | (with_reducible assumption) | assumption)) (by have h_ : (x35_2 : Int) < ((x10_2.length : Int) : Int) := of_decide_eq_true (by first | (with_reducible assumption) | assumption); first | exact h_ | (have e_ := (Kd.S_reads' HO_10.out).1; omega) | simpa using h_); obtain ⟨ve29_0, rfl, ge29_0⟩ := hM29; have HP29 := Kd.S_seg hH29 (of_decide_eq_true (by first | (with_reducible assumption) | assumption)) (by have h_ : (x35_2 : Int) < ((x10_2.length : Int) : Int) := of_decide_eq_true (by first | (with_reducible assumption) | assumption); first | exact h_ | (have e_ := (Kd.S_reads' HO_10.out).1; omega) | simpa using h_) (seg := [v274]) (j := 0) (show 1 ≤ 1 from by decide) (x' := t273) (Kd.M_row (Kd.R_mono (Kd.R_tight rfl (Kd.R_mono (ok' := fun k_ => ((fun k_ => some k_ ≠ (.slice Ao27 x7_1.length co27 : Value).ownBlock)) k_ ∧ k_ ≠ go26) (Kd.R_apart' (HO275.out) (Kd.S_typed HO_10.out) (by decide)) (fun k_ hk => ⟨hk.1.2, fun e_ => (hk.2) (by rw [e_]; rfl)⟩))) (fun _ h_ => Or.inr (h_)))) (fun _ hk => hk) (fun k_ hk_ => ((Kd.R_mono (ok' := fun k_ => ((fun k_ => some k_ ≠ (.slice Ao27 x7_1.length co27 : Value).ownBlock)) k_ ∧ k_ ≠ go26) (Kd.R_apart' (HO275.out) (Kd.S_typed HO_10.out) (by decide)) (fun k_ hk => ⟨hk.1.2, fun e_ => (hk.2) (by rw [e_]; rfl)⟩))).1 k_ hk_.symm); have hx29_0 := hcc29 0 _ rfl; (try simp only [show ((Kd.slice 3 (Kd.int .i64))).sz = 1 from rfl, Nat.mul_one, Nat.add_zero] at hx29_0); have hf29_0 := hfr29 0; (try simp only [show ((Kd.slice 3 (Kd.int .i64))).sz = 1 from rfl, Nat.mul_one, Nat.add_zero] at hf29_0); ((try clear hcl29); (try clear hcc29); (try clear hfr29); (try clear hM29); (try clear hoki29); (try clear hH29)); (try simp only [show ((Kd.slice 3 (Kd.int .i64))).sz = 1 from rfl, Nat.mul_one, Nat.add_zero] at HP29)) | ((with_reducible refine gate_store (t := 25) (p := 45) rfl ?_); refine store_event (t := 25) (p := 45) (v := ?vo_w30) (w1 := (w28.setCell ⟨go26, (x35_2 : Int).toNat, none⟩ (v274))) ?hg ?ho ?hn ?hr ?_; (case ho => rfl); (case hg => rfl); (case hn => rfl); (case hr => first | (go_simp; done) | (go_simp; rfl; done) | (obtain ⟨A_, c_, e_⟩ := Kd.R_slice (Aside0.out (by assumption : Aside0 (Kd.R _ _ _ _ _ v274 _))); rw [e_]; first | (go_simp; done) | (go_simp; rfl))); intro w30 hw; have hg : w28.grownBy w30 (some go26) := (by rw [hw]; exact HP29.2); have hp_ : Kd.S (Kd.slice 3 (Kd.int .i64)) 25 w30 w.heap.size (fun k_ => some k_ ≠ (.slice Ao27 x7_1.length co27 : Value).ownBlock) (.slice (some ⟨go26, 0, none⟩) x10_2.length co26) y276 := (by rw [hw, Ny276.out]; exact HP29.1); clear HP29; have n0_ := Aside0.mk (Kd.R_over' (v := (.slice (some ⟨go26, 0, none⟩) x10_2.length co26)) (by (with_reducible repeat (first | apply Kd.R_alloc | apply Kd.R_drewN | apply Kd.R_drew)); exact HO_7.out) (Kd.S_typed HO_10.out) (by decide) hg); have n1_ := Aside0.mk (hp_); have n2_ := Aside0.mk (blk_grown (g := gb262) (o := .cells #[.slice none 0 0, .slice none 0 0] 36 (0, 0)) (by (with_reducible repeat (first | refine blk_drewN ?_ _ | refine blk_drew ?_ | refine blk_alloc ?_ _)); exact BK262.out) hg (Kd.S_ne HO_10.out BK262.out (by decide))); have n3_ := Aside0.mk ((by rw [hw]; exact below_set (HB.out) GB26.out : Below w.heap.size w w30)); clear HO_7; clear HO_10; clear BK262; clear HB; clear HO275; have HO_7 := n0_; have HO_10 := n1_; have BK262 := n2_; have HB := n3_; clear n0_ n1_ n2_ n3_; clear hg hw hp_))
              go_roundg k2
              case measure => have := HK1.out; have := HK2.out; omega
              case rel => exact ⟨(y276), (wrap64 (x35_2 + 1)), (by first | rfl | (simp; done) | (simp [*]; done)), H', ⟨by have := HK1.out; have := HK2.out; omega⟩, ⟨by (with_reducible repeat (first | apply Kd.R_alloc | apply Kd.R_drewN | apply Kd.R_drew)); exact Kd.R_mono HO_7.out (fun _ hk => trivial)⟩, ⟨by (with_reducible repeat (first | apply Kd.S_alloc | apply Kd.S_drewN | apply Kd.S_drew)); exact HO_10.out⟩, ⟨by (with_reducible repeat (first | refine blk_drewN ?_ _ | refine blk_drew ?_ | refine blk_alloc ?_ _)); exact BK262.out⟩, ⟨by repeat (first | (with_reducible first | exact HB.out | apply below_alloc | apply pw_below_drewN | apply below_drew1 | refine below_set ?_ GE262.out) | exact HB.out)⟩⟩
             ·rw [if_neg c25] at H
              exact absurd H (by simp)
            ·rw [if_neg c23] at H
             exact absurd H (by simp)
           ·rw [if_neg c22] at H
            exact absurd H (by simp)
          ·rw [if_neg c21] at H
           have c21b0 : decide (x35_2 < (l1.length : Int)) = false := decide_eq_false c21
           clear c21
           replace H := Option.bind_eq_some_iff.mp H
           obtain ⟨t277, A310, H⟩ := H
           replace H : ((tuple_Sort.f x10_2).bind fun t280 => (some (t277, t280))) = some (r1, r2) := H
           have A31 := Aside0.mk A310
           clear A310
           replace H := Option.bind_eq_some_iff.mp H
           obtain ⟨t280, A320, H⟩ := H
           replace H : (some (t277, t280)) = some (r1, r2) := H
           have A32 := Aside0.mk A320
           clear A320
           simp only [Option.some.injEq, Prod.mk.injEq] at H
           obtain ⟨rfl, rfl⟩ := H
           go_wp2_with (first | ((with_reducible refine gate_callee (f := 29) rfl ?_); refine goesL_ (some 48) rfl rfl Tryd.func29 (by kernel_rfl) rfl #[.slice A2 l2.length c2] rfl (by (try simp only [List.map_toArray, List.map_cons, List.map_nil]); first | done | rfl | (simp only [List.length_drop, List.length_take]; rfl)) ?_; (with_reducible refine (slices_Clone_int_int.calls _ _ l2 t277 _ ?side1 ?side2 A31.out).mono ?_); (case side1 => repeat (first | exact (Kd.C_below HR2.out HB.out) | (with_reducible refine Kd.C_alloc ?_ _) | (with_reducible refine Kd.C_drewN ?_ _) | (with_reducible refine Kd.C_drew ?_))); (case side2 => exact HC2.out); rintro e w33 ⟨v278, rfl, ho0, hb⟩; refine ⟨_, rfl, ?_⟩; have n0_ := Aside0.mk (Kd.R_elder' (by (with_reducible repeat (first | apply Kd.R_alloc | apply Kd.R_drewN | apply Kd.R_drew)); exact HO_7.out) (Kd.R_base ho0) hb); have n1_ := Aside0.mk (Kd.S_elder' (by (with_reducible repeat (first | apply Kd.S_alloc | apply Kd.S_drewN | apply Kd.S_drew)); exact HO_10.out) (Kd.R_base ho0) hb); have n2_ := Aside0.mk (Kd.R_lower (Kd.R_new' ho0 (Kd.R_lt (by (with_reducible repeat (first | apply Kd.R_alloc | apply Kd.R_drewN | apply Kd.R_drew)); exact HO_7.out))) (below_size (by repeat (first | (with_reducible first | exact HB.out | apply below_alloc | apply pw_below_drewN | apply below_drew1 | refine below_set ?_ GE262.out) | exact HB.out)))); have n3_ := Aside0.mk (blk_below (g := gb262) (o := .cells #[.slice none 0 0, .slice none 0 0] 36 (0, 0)) (by (with_reducible repeat (first | refine blk_drewN ?_ _ | refine blk_drew ?_ | refine blk_alloc ?_ _)); exact BK262.out) hb); have n4_ := Aside0.mk (below_step (by repeat (first | (with_reducible first | exact HB.out | apply below_alloc | apply pw_below_drewN | apply below_drew1 | refine below_set ?_ GE262.out) | exact HB.out)) hb); clear HO_7; clear HO_10; clear BK262; clear HB; have HO_7 := n0_; have HO_10 := n1_; have HO279 := n2_; have BK262 := n3_; have HB := n4_; clear n0_ n1_ n2_ n3_ n4_; (try clear hb); (try clear hb2); (try clear hk); (try clear hi); (try clear ho0); obtain ⟨Ao34, co34, eo34⟩ := Kd.S_slice HO_10.out; subst eo34) | ((with_reducible refine gate_callee (f := 49) rfl ?_); refine goesL_ (some 50) rfl rfl Tryd.func49 (by kernel_rfl) rfl #[.slice Ao34 x10_2.length co34] rfl (by (try simp only [List.map_toArray, List.map_cons, List.map_nil]); first | done | rfl | (simp only [List.length_drop, List.length_take]; rfl)) ?_; (with_reducible refine (tuple_Sort.calls _ _ x10_2 t280 _ ?side1 ?side2 A32.out).mono ?_); (case side1 => repeat (first | exact (Kd.S_reads' HO_10.out).2.2 | (with_reducible refine Kd.C_alloc ?_ _) | (with_reducible refine Kd.C_drewN ?_ _) | (with_reducible refine Kd.C_drew ?_))); (case side2 => exact (Kd.S_reads' HO_10.out).2.1); rintro e w35 ⟨v281, rfl, ho0, hb⟩; refine ⟨_, rfl, ?_⟩; have n0_ := Aside0.mk (Kd.R_below (by (with_reducible repeat (first | apply Kd.R_alloc | apply Kd.R_drewN | apply Kd.R_drew)); exact HO_7.out) hb); have n1_ := Aside0.mk (Kd.S_elder' (by (with_reducible repeat (first | apply Kd.S_alloc | apply Kd.S_drewN | apply Kd.S_drew)); exact HO_10.out) (Kd.S_base ho0) hb); have n2_ := Aside0.mk (Kd.R_below (by (with_reducible repeat (first | apply Kd.R_alloc | apply Kd.R_drewN | apply Kd.R_drew)); exact HO279.out) hb); have n3_ := Aside0.mk (Kd.S_lower (Kd.S_new' (Kd.S_new' (Kd.S_new' ho0 (Kd.R_lt (by (with_reducible repeat (first | apply Kd.R_alloc | apply Kd.R_drewN | apply Kd.R_drew)); exact HO_7.out))) (Kd.S_lt (by (with_reducible repeat (first | apply Kd.S_alloc | apply Kd.S_drewN | apply Kd.S_drew)); exact HO_10.out))) (Kd.R_lt (by (with_reducible repeat (first | apply Kd.R_alloc | apply Kd.R_drewN | apply Kd.R_drew)); exact HO279.out))) (below_size (by repeat (first | (with_reducible first | exact HB.out | apply below_alloc | apply pw_below_drewN | apply below_drew1 | refine below_set ?_ GE262.out) | exact HB.out)))); have n4_ := Aside0.mk (blk_below (g := gb262) (o := .cells #[.slice none 0 0, .slice none 0 0] 36 (0, 0)) (by (with_reducible repeat (first | refine blk_drewN ?_ _ | refine blk_drew ?_ | refine blk_alloc ?_ _)); exact BK262.out) hb); have n5_ := Aside0.mk (below_step (by repeat (first | (with_reducible first | exact HB.out | apply below_alloc | apply pw_below_drewN | apply below_drew1 | refine below_set ?_ GE262.out) | exact HB.out)) hb); clear HO_7; clear HO_10; clear HO279; clear BK262; clear HB; have HO_7 := n0_; have HO_10 := n1_; have HO279 := n2_; have HO282 := n3_; have BK262 := n4_; have HB := n5_; clear n0_ n1_ n2_ n3_ n4_ n5_; (try clear hb); (try clear hb2); (try clear hk); (try clear hi); (try clear ho0); obtain ⟨Ao36, co36, eo36⟩ := Kd.S_slice HO282.out; subst eo36; obtain ⟨Ao37, co37, eo37⟩ := Kd.R_slice HO279.out; subst eo37; have hcz38_0 : w35.cell? ⟨gb262, 0, none⟩ = some (.slice none 0 0) := (blk_cell BK262.out 0).trans rfl; have hcz38_1 : w35.cell? ⟨gb262, 1, none⟩ = some (.slice none 0 0) := (blk_cell BK262.out 1).trans rfl; have hfz38_0 := blk_frozen BK262.out 0; have hfz38_1 := blk_frozen BK262.out 1))
           refine bodyPost_ret (results_cell_row rfl _ _ gb262 36 #[.slice Ao37 t277.length co37, .slice Ao36 t280.length co36] (0, 0) _ rfl (by (with_reducible repeat (first | refine blk_drewN ?_ _ | refine blk_drew ?_ | refine blk_alloc ?_ _)); refine blk_put (cs := #[.slice Ao37 t277.length co37, .slice none 0 0]) ?_ 1 _ rfl; (with_reducible repeat (first | refine blk_drewN ?_ _ | refine blk_drew ?_ | refine blk_alloc ?_ _)); refine blk_put (cs := #[.slice none 0 0, .slice none 0 0]) ?_ 0 _ rfl; (with_reducible repeat (first | refine blk_drewN ?_ _ | refine blk_drew ?_ | refine blk_alloc ?_ _)); exact BK262.out) Tryd.underlying36 rfl (by kernel_rfl)) rfl ?_
           exact ⟨_, _, by first | rfl | (simp [errW_none, errW_some] <;> rfl) | (simp [*, errW_none, errW_some] <;> rfl), by (with_reducible repeat (first | apply Kd.R_alloc | apply Kd.R_drewN | apply Kd.R_drew)); exact Kd.R_mono (Kd.R_far (p := ⟨gb262, 1, none⟩) (Kd.R_far (p := ⟨gb262, 0, none⟩) (Kd.R_types HO279.out BK262.out (by decide)) (fun _ hk => hk.2) (.slice Ao37 t277.length co37)) (fun _ hk => hk.2) (.slice Ao36 t280.length co36)) (fun _ hk => trivial), by (with_reducible repeat (first | apply Kd.S_alloc | apply Kd.S_drewN | apply Kd.S_drew)); exact Kd.S_mono (Kd.S_far (p := ⟨gb262, 1, none⟩) (Kd.S_far (p := ⟨gb262, 0, none⟩) (Kd.S_types HO282.out BK262.out (by decide)) (fun _ hk => hk.2) (.slice Ao37 t277.length co37)) (fun _ hk => hk.2) (.slice Ao36 t280.length co36)) (fun _ hk => hk.1.2), by repeat (first | (with_reducible first | exact HB.out | apply below_alloc | apply pw_below_drewN | apply below_drew1 | refine below_set ?_ GE262.out) | exact HB.out)⟩
       ·rw [if_neg c18] at H
        exact absurd H (by simp)
      ·rw [if_neg c17] at H
       exact absurd H (by simp)
  ·rw [if_neg c5] at H
   exact absurd H (by simp)
 ·rw [if_neg c4] at H
  exact absurd H (by simp)

end Go.Proofs.YtgejnljpdfjgpaaDoor.Q
/- slices.Compact at a row of the call's own; rel.cut's answer; rel.Project. Its conditions: what it is handed is read at the call; sizes. -/
namespace Go.Proofs.YtgejnljpdfjgpaaDoor.Q
open Go.RowKit Go.Proofs Go.Sort Go.Lib Go.Proofs.YtgejnljpdfjgpaaDoorW.PrintWords Go.Proofs.YtgejnljpdfjgpaaDoorW.PrintLast Go.Proofs.YtgejnljpdfjgpaaDoorW.PrintMore
set_option linter.unusedVariables false
set_option linter.unusedSimpArgs false

theorem grow_nil (w : World) : grow w #[] = w := by
  unfold grow
  rw [Array.append_empty]

set_option maxHeartbeats 1000000 in
theorem slices_Compact.calls {W : World} {base : Nat} {v : Value} {xs : List Int} (h : W.ownsRow base 3 1 v xs.length (xs.map (Value.int .i64))) (hl : xs.length < 17592186044416) :
    Calls Tryd.prog 40 #[v] W fun e w' => ∃ v', e = .returned v' ∧ OwnEl w' base (v', compact xs) ∧ W.grownBy w' v.ownBlock := by
  rcases h.2 with ⟨rfl, hz⟩ | ⟨gb, cap, cur, rfl, hbase, hgb, r1, r2, r3, r4⟩
  · have hz0 := List.eq_nil_of_length_eq_zero hz
    subst hz0
    refine (Tryd.slices_Compact_int_empty none 0 W).mono ?_
    rintro e w' ⟨rfl, rfl⟩
    exact ⟨_, rfl, OwnEl.nil _ _, World.grownBy.refl _ _⟩
  · have hH : Holds (Value.int .i64) W gb 0 xs.toArray := holds_of_block_i hgb (by simpa using r4)
    refine (Tryd.slices_Compact_int gb 0 cap xs W hH (by omega) r1).mono ?_
    rintro e w' ⟨rfl, q, hw⟩
    have hc := compact_length_le xs
    have h1 := ownsRow_sorted_i (n := q) (os := #[]) (ss := xs) (ts := compact xs ++ List.replicate (xs.length - (compact xs).length) 0) (by simp; omega) hbase hgb r1 r2 r3
    have h2 := grownBy_sorted_i (w := W) (g := gb) (n := q) (os := #[]) (compact xs ++ List.replicate (xs.length - (compact xs).length) 0).toArray
    rw [grow_nil] at h1 h2
    have hw' : w' = putRow encZ (Sort.ahead W q) gb 0 (compact xs ++ List.replicate (xs.length - (compact xs).length) 0).toArray := hw
    rw [← hw'] at h1 h2
    have h3 := own_take h1 (m := (compact xs).length) hc
    refine ⟨_, rfl, OwnEl.of_own ?_, h2⟩
    have e : ((compact xs ++ List.replicate (xs.length - (compact xs).length) 0).map encZ).take ((compact xs).length * 1) = (compact xs).map (Value.int .i64) := by
      rw [List.map_append, List.take_append_of_le_length (by simp), List.take_of_length_le (by simp)]
    rw [e] at h3
    exact h3

/-- Numbers in order, each once. -/
def varsU (vs : List Int) : List Int := compact (sortI vs)
def cutRows (s : List Int) (rows : List (List Int)) (onto : List Int) : List (List Int) := sortU (rows.map fun t => pickL t (placesL s onto))

theorem rel_cut_l1 (onto pl : List Int) (rows : List (List Int)) (ho : onto.length < 17592186044416) (hp : pl.length < 8796093022208) (hr : rows.length < 1099511627776) (d : Nat) : ∀ (k i : Nat) (acc : List (List Int)), rows.length - i = d → i ≤ rows.length → d < k → acc.length = rows.length → acc.take i = (rows.take i).map (fun t => pickL t pl) →
    rel_cut.l1 k onto pl acc rows (rows.length : Int) (i : Int) = some (onto, sortU (rows.map fun t => pickL t pl)) := by
  induction d with
  | zero =>
    intro k i acc h1 h2 hk hl ha
    obtain ⟨k, rfl⟩ : ∃ m, k = m + 1 := ⟨k - 1, by omega⟩
    simp only [rel_cut.l1]
    rw [if_neg (by omega)]
    rw [List.take_of_length_le (by omega), List.take_of_length_le (by omega)] at ha
    unfold slices_Clone_int_int.f tuple_Sort.f
    rw [if_pos ho, ha, if_pos ⟨by simpa using hr, by
      rw [List.all_eq_true]
      intro x hx
      obtain ⟨t, _, rfl⟩ := List.mem_map.1 hx
      have := pickL_len t pl
      exact decide_eq_true (by omega)⟩]
    rfl
  | succ d ih =>
    intro k i acc h1 h2 hk hl ha
    obtain ⟨k, rfl⟩ : ∃ m, k = m + 1 := ⟨k - 1, by omega⟩
    simp only [rel_cut.l1]
    have e : rd_L1 rows (i : Int) = rows[i]'(by omega) := by simp [rd_L1, show i < rows.length by omega]
    unfold tuple_Pick.f
    rw [if_pos (by omega), if_pos (by omega), if_pos (by omega), if_pos hp, e]
    simp only [Option.bind_some]
    rw [if_pos (by omega), wrap_nat i (by omega)]
    refine ih k (i + 1) _ (by omega) (by omega) (by omega) (by simpa using hl) ?_
    rw [List.take_succ_eq_append_getElem (show i < rows.length by omega), List.map_append, ← ha, Int.toNat_natCast, List.take_succ_eq_append_getElem (by simp; omega), List.take_set, List.set_eq_of_length_le (by simp; omega)]
    simp
theorem rel_cut_l0 (s onto : List Int) (rows : List (List Int)) (hs : s.length ≤ 9223372036854775807) (ho : onto.length < 8796093022208) (hr : rows.length < 1099511627776) (d : Nat) : ∀ (k i : Nat) (acc : List Int), onto.length - i = d → i ≤ onto.length → d + s.length + rows.length + 2 < k → acc.length = onto.length → acc.take i = (onto.take i).map (placeOf s) →
    rel_cut.l0 k s rows onto acc onto (onto.length : Int) (i : Int) = some (onto, cutRows s rows onto) := by
  induction d with
  | zero =>
    intro k i acc h1 h2 hk hl ha
    obtain ⟨k, rfl⟩ : ∃ m, k = m + 1 := ⟨k - 1, by omega⟩
    simp only [rel_cut.l0]
    rw [if_neg (by omega), if_pos (by omega), Int.toNat_natCast, if_pos (by omega)]
    rw [List.take_of_length_le (by omega), List.take_of_length_le (by omega)] at ha
    have h := rel_cut_l1 onto acc rows (by omega) (by omega) hr rows.length k 0 (List.replicate rows.length []) (by omega) (by omega) (by omega) (by simp) (by simp)
    rw [show ((0 : Nat) : Int) = 0 from rfl, ha] at h
    rw [ha, h]
    rfl
  | succ d ih =>
    intro k i acc h1 h2 hk hl ha
    obtain ⟨k, rfl⟩ : ∃ m, k = m + 1 := ⟨k - 1, by omega⟩
    simp only [rel_cut.l0]
    rw [if_pos (by omega), if_pos (by omega), if_pos (by omega), slices_Index_eq s _ hs k (by omega)]
    simp only [Option.bind_some]
    rw [if_pos (by omega), wrap_nat i (by omega)]
    refine ih k (i + 1) _ (by omega) (by omega) (by omega) (by simpa using hl) ?_
    rw [take_rd' onto i (by omega), List.map_append, ← ha, Int.toNat_natCast, List.take_succ_eq_append_getElem (by simp; omega), List.take_set, List.set_eq_of_length_le (by simp; omega)]
    simp
theorem rel_cut_eq (s onto : List Int) (rows : List (List Int)) (hs : s.length ≤ 9223372036854775807) (ho : onto.length < 8796093022208) (hr : rows.length < 1099511627776) :
    rel_cut.f (onto.length + s.length + rows.length + 3) s rows onto = some (onto, cutRows s rows onto) := by
  unfold rel_cut.f
  rw [if_pos (by omega), Int.toNat_natCast, if_pos (by omega)]
  have h := rel_cut_l0 s onto rows hs ho hr onto.length (onto.length + s.length + rows.length + 3) 0 (List.replicate onto.length 0) (by omega) (by omega) (by omega) (by simp) (by simp)
  rw [show ((0 : Nat) : Int) = 0 from rfl] at h
  exact h

def projS (s vs : List Int) : List Int := meetL s (varsU vs)
def projR (s : List Int) (rows : List (List Int)) (vs : List Int) : List (List Int) := cutRows s rows (projS s vs)
theorem varsU_len (vs : List Int) : (varsU vs).length ≤ vs.length := by
  have h1 := compact_length_le (sortI vs)
  have h2 : (sortI vs).length = vs.length := by simp [sortI]
  unfold varsU
  omega
theorem len_sortI (vs : List Int) : (sortI vs).length = vs.length := by simp [sortI]

set_option maxHeartbeats 2000000 in
set_option maxRecDepth 100000 in
theorem rel_Project.calls (A0 : Option Addr) (c0 : Nat) (s : List Int) (A1 : Option Addr) (c1 : Nat) (rows : List (List Int)) (A2 : Option Addr) (c2 : Nat) (vs : List Int) (w : World)
    (hr0 : Kd.C (Kd.int .i64) w A0 s.length s) (hc0 : s.length ≤ c0) (hr1 : Kd.C (Kd.slice 3 (Kd.int .i64)) w A1 rows.length rows) (hc1 : rows.length ≤ c1) (hr2 : Kd.C (Kd.int .i64) w A2 vs.length vs)
    (hl0 : s.length < 17179869184) (hl1 : rows.length < 1099511627776) (hl2 : vs.length < 17179869184) :
    Calls Tryd.prog 28 #[.agg #[.slice A0 s.length c0, .slice A1 rows.length c1], .slice A2 vs.length c2] w fun e w' => ∃ v0_ v1_ : Value, e = .returned (.agg #[v0_, v1_]) ∧ Kd.R (Kd.int .i64) 3 w' w.heap.size (fun _ => True) v0_ (projS s vs) ∧ Kd.S (Kd.slice 3 (Kd.int .i64)) 25 w' w.heap.size (fun k_ => some k_ ≠ (v0_ : Value).ownBlock) v1_ (projR s rows vs) ∧ Below w.heap.size w w' := by
  have HR0 := Aside0.mk hr0
  have HC0 := Aside0.mk hc0
  have HR1 := Aside0.mk hr1
  have HC1 := Aside0.mk hc1
  have HR2 := Aside0.mk hr2
  have HL0 := Aside0.mk hl0
  have HL1 := Aside0.mk hl1
  have HL2 := Aside0.mk hl2
  clear hr0 hc0 hr1 hc1 hr2 hl0 hl1 hl2
  go_enter Tryd.func28, Tryd.ntmps28
  go_wp2_with fail
  refine (slices_Values.calls A2 vs.length c2 _).mono ?_
  rintro e w1 ⟨rfl, rfl⟩
  have hb0 : Below w.heap.size w (((w.alloc (.cells #[.slice A0 s.length c0, .slice A1 rows.length c1] 36)).alloc (.cells #[.slice none 0 0, .slice none 0 0] 36)).alloc (.cells #[.slice A2 vs.length c2] 25)) := (((Below.refl _ _).alloc (Nat.le_refl _) _).alloc (by simp) _).alloc (by simp; omega) _
  have hbx : (((w.alloc (.cells #[.slice A0 s.length c0, .slice A1 rows.length c1] 36)).alloc (.cells #[.slice none 0 0, .slice none 0 0] 36)).alloc (.cells #[.slice A2 vs.length c2] 25)).heap[w.heap.size + 2]? = some (.cells #[.slice A2 vs.length c2] 25 (0, 0)) := by
    have := heap_alloc_new ((w.alloc (.cells #[.slice A0 s.length c0, .slice A1 rows.length c1] 36)).alloc (.cells #[.slice none 0 0, .slice none 0 0] 36)) (.cells #[.slice A2 vs.length c2] 25)
    simpa using this
  have hba : (((w.alloc (.cells #[.slice A0 s.length c0, .slice A1 rows.length c1] 36)).alloc (.cells #[.slice none 0 0, .slice none 0 0] 36)).alloc (.cells #[.slice A2 vs.length c2] 25)).heap[w.heap.size]? = some (.cells #[.slice A0 s.length c0, .slice A1 rows.length c1] 36 (0, 0)) := blk_alloc (blk_alloc (heap_alloc_new w _) _) _
  have hbr : (((w.alloc (.cells #[.slice A0 s.length c0, .slice A1 rows.length c1] 36)).alloc (.cells #[.slice none 0 0, .slice none 0 0] 36)).alloc (.cells #[.slice A2 vs.length c2] 25)).heap[w.heap.size + 1]? = some (.cells #[.slice none 0 0, .slice none 0 0] 36 (0, 0)) := blk_alloc (by
    have := heap_alloc_new (w.alloc (.cells #[.slice A0 s.length c0, .slice A1 rows.length c1] 36)) (.cells #[.slice none 0 0, .slice none 0 0] 36)
    simpa using this) _
  have hsz : (((w.alloc (.cells #[.slice A0 s.length c0, .slice A1 rows.length c1] 36)).alloc (.cells #[.slice none 0 0, .slice none 0 0] 36)).alloc (.cells #[.slice A2 vs.length c2] 25)).heap.size = w.heap.size + 3 := by simp
  go_wp2_with fail
  simp only [World.size_alloc, Nat.add_assoc, Nat.reduceAdd]
  generalize ((w.alloc (.cells #[.slice A0 s.length c0, .slice A1 rows.length c1] 36)).alloc (.cells #[.slice none 0 0, .slice none 0 0] 36)).alloc (.cells #[.slice A2 vs.length c2] 25) = W0 at hb0 hbx hba hbr hsz ⊢
  have hcx := (blk_cell hbx 0).trans rfl
  refine (slices_Sorted.calls (w.heap.size + 2) A2 c2 vs W0 (by have := HL2.out; omega) (Kd.C_below HR2.out hb0) hcx).mono ?_
  rintro e w1 ⟨v1, rfl, ho1, hb1⟩
  have HX0 := Aside0.mk (And.intro hb0 (And.intro (blk_below hba hb1) (And.intro (blk_below hbr hb1) hsz)))
  have HB1 := Aside0.mk hb1
  have HO1 := Aside0.mk ho1
  clear hb0 hbx hba hbr hsz hcx hb1 ho1
  go_wp2_with fail
  refine (slices_Compact.calls (xs := sortI vs) (by rw [len_sortI]; exact HO1.out) (by rw [len_sortI]; have := HL2.out; omega)).mono ?_
  rintro e w2 ⟨v2, rfl, ho2, hg2⟩
  have hne : ∀ (b : Nat), b < W0.heap.size → some b ≠ v1.ownBlock := fun b hb e => by have := own_base HO1.out b e.symm; omega
  have hA2 := blk_grown HX0.out.2.1 hg2 (hne _ (by have := HX0.out.2.2.2; omega))
  have hR2 := blk_grown HX0.out.2.2.1 hg2 (hne _ (by have := HX0.out.2.2.2; omega))
  have hb2 : Below w.heap.size w w2 := pw_below_grown (below_step HX0.out.1 HB1.out) v1.ownBlock (below_step HX0.out.1 HB1.out).size hg2 (fun k hk => by have := own_base HO1.out k hk; have := HX0.out.2.2.2; omega)
  obtain ⟨Av, cv, ev, hvl, hvC⟩ := ho2.reads
  have ev : v2 = .slice Av (varsU vs).length cv := ev
  subst ev
  have hrb : w.heap.size + 1 < W0.heap.size := by have := HX0.out.2.2.2; omega
  have XR : Aside0 (∀ W, w2.grownBy W (some (w.heap.size + 1)) → Kd.C (Kd.int .i64) W A0 s.length s ∧ Kd.C (Kd.slice 3 (Kd.int .i64)) W A1 rows.length rows ∧ Kd.C (Kd.int .i64) W Av (varsU vs).length (varsU vs) ∧ Below w.heap.size w W ∧ W.cell? ⟨w.heap.size, 0, none⟩ = some (.slice A0 s.length c0) ∧ W.cell? ⟨w.heap.size, 1, none⟩ = some (.slice A1 rows.length c1)) := ⟨fun W hW => by
    have hbw : Below w.heap.size w W := pw_below_grown hb2 (some (w.heap.size + 1)) hb2.size hW (fun k hk => by cases hk; omega)
    have hAW := blk_grown hA2 hW (fun e => by injection e; omega)
    obtain ⟨A', c', e', l', g'⟩ := (ho2.older hW hrb).reads
    injection e' with e1 e2 e3
    subst e1
    exact ⟨Kd.C_below HR0.out hbw, Kd.C_below HR1.out hbw, g', hbw, (blk_cell hAW 0).trans rfl, (blk_cell hAW 1).trans rfl⟩⟩
  have XS : Aside0 (∀ W, w2.grownBy W (some (w.heap.size + 1)) → W.cell? ⟨w.heap.size, 0, none⟩ = some (.slice A0 s.length c0) ∧ W.cell? ⟨w.heap.size, 1, none⟩ = some (.slice A1 rows.length c1) ∧ Aside0 (w2.grownBy W (some (w.heap.size + 1)))) := ⟨fun W hW => ⟨(XR.out W hW).2.2.2.2.1, (XR.out W hW).2.2.2.2.2, ⟨hW⟩⟩⟩
  have HR2B := Aside0.mk hR2
  have HVL := Aside0.mk hvl
  have hmm : tuple_Meet.f s (varsU vs) = some (projS s vs) := by
    unfold tuple_Meet.f tuple_merge.f
    have h1 := varsU_len vs
    have h2 := HL0.out
    have h3 := HL2.out
    rw [if_pos (by omega)]
    rfl
  have HMM := Aside0.mk hmm
  have HCE := Aside0.mk (rel_cut_eq s (projS s vs) rows (by have := HL0.out; omega) (by
    have h1 : (projS s vs).length ≤ s.length + (varsU vs).length := mergeL_len _ _ _ _ _
    have h2 := varsU_len vs
    have h3 := HL0.out
    have h4 := HL2.out
    omega) HL1.out)
  have HB2 := Aside0.mk hb2
  clear hne hA2 hR2 hb2 ho2 hg2 hvl hvC hmm hrb
  go_wp2_with fail
  go_region_held3 (fun w' => w'.cell? ⟨w.heap.size, 0, none⟩ = some (.slice A0 s.length c0) ∧ w'.cell? ⟨w.heap.size, 1, none⟩ = some (.slice A1 rows.length c1) ∧ Aside0 (w2.grownBy w' (some (w.heap.size + 1))))
    ((refine XS.out _ ?_; go_split_ands; first | exact grown_of_below (below_drew (Below.refl _ _)) _ | exact hk3.out | exact hk4.out | exact (hk4.out.trans (grown_setCell _ _ _ _)).trans (grown_setCell _ _ _ _)))
    (first
      | (go_at_call 30; go_split_ands
         refine (tuple_Meet.calls A0 c0 s Av cv (varsU vs) _ _ (XR.out _ ‹Aside0 (w2.grownBy _ (some (w.heap.size + 1)))›.out).1 HC0.out (XR.out _ ‹Aside0 (w2.grownBy _ (some (w.heap.size + 1)))›.out).2.2.1 HVL.out HMM.out).mono ?_
         rintro e w3 ⟨vm, rfl, hvm, hb3⟩
         have hk3 := Aside0.mk (‹Aside0 (w2.grownBy _ (some (w.heap.size + 1)))›.out.trans (grown_of_below hb3 _))
         have HVM := Aside0.mk (OwnEl.of_R hvm)
         obtain ⟨Am, cm, em, hml, hmC⟩ := HVM.out.reads
         have em : vm = .slice Am (projS s vs).length cm := em
         subst em
         have HMC := Aside0.mk (And.intro hml hmC)
         have HB3 := Aside0.mk (below_step (below_drew (Below.refl w2.heap.size w2)) hb3)
         clear hml hmC hvm hb3)
      | (go_at_call 43; go_split_ands
         refine (rel_cut.calls _ A0 c0 s A1 c1 rows Am cm (projS s vs) _ _ _ (XR.out _ ‹Aside0 (w2.grownBy _ (some (w.heap.size + 1)))›.out).1 HC0.out (XR.out _ ‹Aside0 (w2.grownBy _ (some (w.heap.size + 1)))›.out).2.1 HC1.out HMC.out.2 HMC.out.1 HCE.out).mono ?_
         rintro e w4 ⟨v0, vR, rfl, h0, h1, hb4⟩
         have hk4 := Aside0.mk (‹Aside0 (w2.grownBy _ (some (w.heap.size + 1)))›.out.trans (grown_of_below hb4 _))
         have H0 := Aside0.mk h0
         have H1 := Aside0.mk h1
         obtain ⟨A4, c4, e4⟩ := Kd.R_slice h0
         obtain ⟨A5, c5, e5⟩ := Kd.S_slice h1
         subst e4 e5
         have HRB4 := Aside0.mk (blk_below (blk_below HR2B.out HB3.out) hb4)
         have hza := (blk_cell HRB4.out 0).trans rfl
         have hzb := (blk_cell HRB4.out 1).trans rfl
         have hzc := blk_frozen HRB4.out 0
         have hzd := blk_frozen HRB4.out 1
         clear h0 h1 hb4))
  all_goals go_split_ands
  go_wp2
  have hr2 := blk_put (blk_put HRB4.out 0 (.slice A4 (projS s vs).length c4) rfl) 1 (.slice A5 (cutRows s rows (projS s vs)).length c5) rfl
  have hya := (blk_cell hr2 0).trans rfl
  have hyb := (blk_cell hr2 1).trans rfl
  have hle : w.heap.size ≤ w3.heap.size := Nat.le_trans HB2.out.size HB3.out.size
  have hs1 := blk_put HRB4.out 0 (.slice A4 (projS s vs).length c4) rfl
  refine bodyPost_ret (v := .agg #[.slice A4 (projS s vs).length c4, .slice A5 (cutRows s rows (projS s vs)).length c5]) (by simp [results, Tryd.results28, go_sem, hya, hyb]) rfl ?_
  refine ⟨_, _, rfl, ?_, ?_, ?_⟩
  · exact Kd.R_lower (Kd.R_set (Kd.R_set H0.out HRB4.out (by decide) 0 _) hs1 (by decide) 1 _) hle
  · exact Kd.S_lower (Kd.S_set (Kd.S_set H1.out HRB4.out (by decide) 0 _) hs1 (by decide) 1 _) hle
  · exact pw_below_grown HB2.out (some (w.heap.size + 1)) HB2.out.size ((hk4.out.trans (grown_setCell _ _ _ _)).trans (grown_setCell _ _ _ _)) (fun k hk => by cases hk; omega)

end Go.Proofs.YtgejnljpdfjgpaaDoor.Q
/- slices.EqualFunc over rows with slices.Equal, and rel.Same: whether two relations are one. Their conditions: what they are handed is read at the call. -/
namespace Go.Proofs.YtgejnljpdfjgpaaDoor.Q
open Go.RowKit Go.Proofs Go.Proofs.YtgejnljpdfjgpaaDoorW.PrintWords Go.Proofs.YtgejnljpdfjgpaaDoorW.PrintLast Go.Proofs.YtgejnljpdfjgpaaDoorW.PrintMore
set_option linter.unusedVariables false
set_option linter.unusedSimpArgs false

theorem ret_bool {a b : Bool} (h : a = b) : Ending.returned (.bool a) = .returned (.bool b) := by rw [h]
theorem below_drewN {w W : World} (h : Below w.heap.size w W) (m : Nat) : Below w.heap.size w (W.drewN m) := pw_below_drewN h m
theorem eq_of_takes {l0 l1 : List (List Int)} (h : l0.length = l1.length) (ht : l0.take l0.length = l1.take l0.length) : l0 = l1 := by
  rw [List.take_length] at ht
  rw [ht, h, List.take_length]

set_option maxHeartbeats 1000000 in
set_option maxRecDepth 100000 in
theorem slices_EqualFunc.calls (A0 : Option Addr) (c0 : Nat) (l0 : List (List Int)) (A1 : Option Addr) (c1 : Nat) (l1 : List (List Int)) (w : World) (hr0 : Kd.C (Kd.slice 3 (Kd.int .i64)) w A0 l0.length l0) (hr1 : Kd.C (Kd.slice 3 (Kd.int .i64)) w A1 l1.length l1) :
    Calls Tryd.prog 39 #[.slice A0 l0.length c0, .slice A1 l1.length c1, .func (.func 38) #[] #[]] w fun e w' => e = .returned (.bool (decide (l0 = l1))) ∧ Drawn0 w w' := by
  obtain ⟨r, hr⟩ : ∃ r, decide (l0 = l1) = r := ⟨_, rfl⟩
  rw [hr]
  have HRR := Aside0.mk hr
  have HR0 := Aside0.mk hr0
  have HR1 := Aside0.mk hr1
  have hm0 : l0.length ≤ maxLen := Kd.C_max hr0
  unfold maxLen at hm0
  clear hr0 hr1 hr
  by_cases hl : (l0.length : Int) = (l1.length : Int)
  · have c3b0 : ((l0.length : Int) == (l1.length : Int)) = true := beq_iff_eq.mpr hl
    have c3b1 : ((l0.length : Int) != (l1.length : Int)) = false := bne_eq_false_iff_eq.mpr hl
    have c3b2 : (l0.length == l1.length) = true := by first | simpa using hl | (simp at hl ⊢; omega)
    have HL := Aside0.mk (show l0.length = l1.length by omega)
    clear hl
    go_enter Tryd.func39, Tryd.ntmps39
    go_wp2
    go_loopw [17] (fun i wr => ∃ k : Nat, k ≤ l0.length ∧ i = .int .i64 k ∧ Aside0 (l0.take k = l1.take k) ∧ Drawn0 w wr) (fun i _ => l0.length - (intOf i).toNat)
    case atStart => exact ⟨0, Nat.zero_le _, rfl, aside0 rfl, by repeat (first | exact Drawn0.refl _ | apply Drawn0.step)⟩
    case round =>
      clear c3b0 c3b1 c3b2
      obtain ⟨k, hk, rfl, HT, ⟨⟨m, rfl⟩⟩⟩ := hrel
      by_cases hlt : k < l0.length
      · have hd : decide ((k : Int) < (l0.length : Int)) = true := decide_eq_true (by omega)
        have hd2 : decide (k < l0.length) = true := decide_eq_true hlt
        have hk1 : k < l1.length := by have := HL.out; omega
        obtain ⟨ad0, B0, d0, e0, hx0, hl0, hC0⟩ := at_sl HR0.out k hlt
        obtain ⟨ad1, B1, d1, e1, hx1, hl1, hC1⟩ := at_sl HR1.out k hk1
        subst e0 e1
        have HT0 := Aside0.mk (show l0.take (k + 1) = l0.take k ++ [l0.getD k []] from by rw [List.take_succ_eq_append_getElem hlt, List.getD_eq_getElem?_getD, List.getElem?_eq_getElem hlt]; rfl)
        have HT1 := Aside0.mk (show l1.take (k + 1) = l1.take k ++ [l1.getD k []] from by rw [List.take_succ_eq_append_getElem hk1, List.getD_eq_getElem?_getD, List.getElem?_eq_getElem hk1]; rfl)
        generalize l0.getD k [] = y0 at hx0 hl0 hC0 HT0
        generalize l1.getD k [] = y1 at hx1 hl1 hC1 HT1
        have HC0 := Aside0.mk (And.intro hl0 hC0)
        have HC1 := Aside0.mk (And.intro hl1 hC1)
        have hm1 : y0.length ≤ 9223372036854775807 := Kd.C_max hC0
        have HY := Aside0.mk (slices_Equal_eq y0 y1 hm1)
        have hk0 : (0 : Int) ≤ (k : Int) := by omega
        have hk2 : (k : Int) < (l0.length : Int) := by omega
        have hk3 : (k : Int) < (l1.length : Int) := by omega
        clear hl0 hC0 hl1 hC1 hm1
        obtain ⟨b, hb⟩ : ∃ b, decide (y0 = y1) = b := ⟨_, rfl⟩
        rw [hb] at HY
        have HB := Aside0.mk hb
        clear hb
        cases b
        all_goals
          go_wp2_with (go_at_call 38; refine (slices_Equal_int_int.calls _ B0 d0 y0 B1 d1 y1 _ _ (Kd.C_below HC0.out.2 (by (repeat apply below_drew1); exact (Drawn0.mk ⟨m, rfl⟩).below)) HC0.out.1 (Kd.C_below HC1.out.2 (by (repeat apply below_drew1); exact (Drawn0.mk ⟨m, rfl⟩).below)) HC1.out.1 HY.out).mono ?_; rintro e w' ⟨rfl, ⟨⟨m2, rfl⟩⟩⟩)
        · go_ret
          refine ⟨ret_bool ?_, by repeat (first | exact Drawn0.refl _ | apply Drawn0.step)⟩
          have : l0 ≠ l1 := fun e => by
            have h0 := HT0.out
            rw [e, HT1.out] at h0
            have := List.append_inj_right h0 rfl
            have h2 := of_decide_eq_false HB.out
            simp at this
            exact h2 this.symm
          exact ((decide_eq_false this).symm.trans HRR.out)
        · go_roundw
          case rel => exact ⟨k + 1, by omega, by go_num, aside0 (by rw [HT0.out, HT1.out, HT.out, of_decide_eq_true HB.out]), by repeat (first | exact Drawn0.refl _ | apply Drawn0.step)⟩
          case measure => simp [intOf]; omega
      · obtain rfl : k = l0.length := by omega
        have hd2 : decide (l0.length < l0.length) = false := decide_eq_false (by omega)
        go_wp2
        go_ret
        exact ⟨ret_bool ((decide_eq_true (eq_of_takes HL.out HT.out)).symm.trans HRR.out), by repeat (first | exact Drawn0.refl _ | apply Drawn0.step)⟩
  · have c3b0 : ((l0.length : Int) == (l1.length : Int)) = false := by simpa using hl
    have c3b1 : ((l0.length : Int) != (l1.length : Int)) = true := by simpa using hl
    have c3b2 : (l0.length == l1.length) = false := by simp; omega
    have HN := Aside0.mk (show l0 ≠ l1 from fun e => hl (by rw [e]))
    clear hl
    go_enter Tryd.func39, Tryd.ntmps39
    go_wp2
    go_ret
    exact ⟨ret_bool ((decide_eq_false HN.out).symm.trans HRR.out), by repeat (first | exact Drawn0.refl _ | apply Drawn0.step)⟩

set_option maxHeartbeats 1000000 in
set_option maxRecDepth 100000 in
theorem rel_Same.calls (A0 : Option Addr) (c0 : Nat) (sA : List Int) (A1 : Option Addr) (c1 : Nat) (rA : List (List Int)) (A2 : Option Addr) (c2 : Nat) (sB : List Int) (A3 : Option Addr) (c3 : Nat) (rB : List (List Int)) (w : World)
    (hr0 : Kd.C (Kd.int .i64) w A0 sA.length sA) (hc0 : sA.length ≤ c0) (hr1 : Kd.C (Kd.slice 3 (Kd.int .i64)) w A1 rA.length rA) (hr2 : Kd.C (Kd.int .i64) w A2 sB.length sB) (hc2 : sB.length ≤ c2) (hr3 : Kd.C (Kd.slice 3 (Kd.int .i64)) w A3 rB.length rB) :
    Calls Tryd.prog 27 #[.agg #[.slice A0 sA.length c0, .slice A1 rA.length c1], .agg #[.slice A2 sB.length c2, .slice A3 rB.length c3]] w fun e w' => e = .returned (.bool (decide (sA = sB ∧ rA = rB))) ∧ Below w.heap.size w w' := by
  obtain ⟨r, hr⟩ : ∃ r, decide (sA = sB ∧ rA = rB) = r := ⟨_, rfl⟩
  rw [hr]
  have HRR := Aside0.mk hr
  have HR0 := Aside0.mk hr0
  have HC0 := Aside0.mk hc0
  have HR1 := Aside0.mk hr1
  have HR2 := Aside0.mk hr2
  have HC2 := Aside0.mk hc2
  have HR3 := Aside0.mk hr3
  have hm0 : sA.length ≤ 9223372036854775807 := Kd.C_max hr0
  have HS := Aside0.mk (slices_Equal_eq sA sB hm0)
  clear hr hr0 hc0 hr1 hr2 hc2 hr3 hm0
  have HB0 := Aside0.mk (show Below w.heap.size w ((w.alloc (.cells #[.slice A0 sA.length c0, .slice A1 rA.length c1] 36)).alloc (.cells #[.slice A2 sB.length c2, .slice A3 rB.length c3] 36)) from ((Below.refl _ _).alloc (Nat.le_refl _) _).alloc (by simp) _)
  by_cases he : sA = sB
  · rw [decide_eq_true he] at HS
    obtain ⟨b, hb⟩ : ∃ b, decide (rA = rB) = b := ⟨_, rfl⟩
    have HRE := Aside0.mk (show b = r by rw [← HRR.out, ← hb]; simp [he])
    have HBB := Aside0.mk hb
    clear he hb
    go_enter Tryd.func27, Tryd.ntmps27
    go_wp2_with fail
    refine (slices_Equal_int_int.calls _ A0 c0 sA A2 c2 sB _ _ (Kd.C_below HR0.out HB0.out) HC0.out (Kd.C_below HR2.out HB0.out) HC2.out HS.out).mono ?_
    rintro e w' ⟨rfl, ⟨⟨m, rfl⟩⟩⟩
    go_wp2_with fail
    refine (slices_EqualFunc.calls A1 c1 rA A3 c3 rB _ (Kd.C_below HR1.out (below_drewN HB0.out m)) (Kd.C_below HR3.out (below_drewN HB0.out m))).mono ?_
    rintro e w' ⟨rfl, ⟨⟨m2, rfl⟩⟩⟩
    rw [HBB.out]
    go_wp2
    go_ret
    exact ⟨ret_bool HRE.out, below_drewN HB0.out _⟩
  · rw [decide_eq_false he] at HS
    have HRE := Aside0.mk (show false = r by rw [← HRR.out]; simp [he])
    clear he
    go_enter Tryd.func27, Tryd.ntmps27
    go_wp2_with fail
    refine (slices_Equal_int_int.calls _ A0 c0 sA A2 c2 sB _ _ (Kd.C_below HR0.out HB0.out) HC0.out (Kd.C_below HR2.out HB0.out) HC2.out HS.out).mono ?_
    rintro e w' ⟨rfl, ⟨⟨m, rfl⟩⟩⟩
    go_wp2
    go_ret
    exact ⟨ret_bool HRE.out, below_drewN HB0.out m⟩

end Go.Proofs.YtgejnljpdfjgpaaDoor.Q
