/- A part of the proof of this claim (part 6 of 16): contracts of callees and plain facts, each with its own conditions before its statement. -/
import Derived.Deep.Cut
import Derived.Deep.DeepCutAuto
import Derived.Test.YtgejnljpdfjgpaaDoorGK1
import Derived.Test.YtgejnljpdfjgpaaDoorGK2
import Derived.Test.YtgejnljpdfjgpaaDoorGK5
set_option linter.unusedVariables false
set_option linter.unusedSimpArgs false
namespace Go.Proofs.YtgejnljpdfjgpaaDoor.Q
open Go.RowKit Go.Proofs.YtgejnljpdfjgpaaDoorW.PrintWords Go.Proofs.YtgejnljpdfjgpaaDoorW.PrintLast Go.Proofs.YtgejnljpdfjgpaaDoorW.PrintMore
attribute [local go_sem] max2_int min2_int max_two min_two max_three min_three max_four min_four   -- for this text's walks alone
set_option linter.unusedVariables false
set_option linter.unusedSimpArgs false

/-! ### place_Children: function 37 -/
def place_Children.l0 : Nat → Int → List Int → List Int → Int → Int → Option (List Int)
 | 0, _, _, _, _, _ => none
 | k + 1, x1, x4, x8, x9, x10 => if x10 < x9 then (if 0 ≤ x10 then (if x10 < (x8.length : Int) then (if (rd x8 x10) = x1 then (if x1 ≥ 0 then (if x4.length < 17592186044416 then (place_Children.l0 k x1 (x4 ++ [x10]) x8 x9 (wrap64 (x10 + 1))) else (none)) else (place_Children.l0 k x1 x4 x8 x9 (wrap64 (x10 + 1)))) else (place_Children.l0 k x1 x4 x8 x9 (wrap64 (x10 + 1)))) else (none)) else (none)) else (some x4)
def place_Children.f (k : Nat) (l0_0 : List (List Int)) (l0_1 : List Int) (a1 : Int) : Option (List Int) := place_Children.l0 k a1 ([] : List Int) l0_1 (l0_1.length : Int) 0
theorem place_Children.mono_l : ∀ k, (∀ y0 y1 y2 y3 y4, LeO (place_Children.l0 k y0 y1 y2 y3 y4) (place_Children.l0 (k + 1) y0 y1 y2 y3 y4))
 | 0 => fun _ _ _ _ _ r h => by simp [place_Children.l0] at h
 | k + 1 => by
  have ih0 := place_Children.mono_l k
  ·intro y0 y1 y2 y3 y4
   unfold place_Children.l0
   repeat' first
   | (with_reducible exact ih0 _ _ _ _ _)
   | (with_reducible exact LeO.refl _)
   | (with_reducible exact LeO.none _)
   | (with_reducible refine LeO.ite ?_ ?_)
   | (with_reducible refine LeO.bind ?_ (fun _ => ?_))
   | exact ih0 _ _ _ _ _
   | exact LeO.none _
   | refine LeO.ite ?_ ?_
   | refine LeO.bind ?_ (fun _ => ?_)
theorem place_Children.mono : ∀ a0 a1 a2 k, LeO (place_Children.f k a0 a1 a2) (place_Children.f (k + 1) a0 a1 a2) := by
 intro a0 a1 a2 k
 have ih0 := place_Children.mono_l k
 unfold place_Children.f
 repeat' first
   | (with_reducible exact ih0 _ _ _ _ _)
   | (with_reducible exact LeO.refl _)
   | (with_reducible exact LeO.none _)
   | (with_reducible refine LeO.ite ?_ ?_)
   | (with_reducible refine LeO.bind ?_ (fun _ => ?_))
   | exact ih0 _ _ _ _ _
   | exact LeO.none _
   | refine LeO.ite ?_ ?_
   | refine LeO.bind ?_ (fun _ => ?_)
set_option maxHeartbeats 8000000 in
set_option maxRecDepth 100000 in
theorem place_Children.calls (k : Nat) (A0_0 : Option Addr) (c0_0 : Nat) (l0_0 : List (List Int)) (A0_1 : Option Addr) (c0_1 : Nat) (l0_1 : List Int) (a1 : Int) (r : List Int) (w : World) (hr0_0 : Kd.C (Kd.slice 3 (Kd.int .i64)) w A0_0 l0_0.length l0_0) (hc0_0 : l0_0.length ≤ c0_0) (hr0_1 : Kd.C (Kd.int .i64) w A0_1 l0_1.length l0_1) (hc0_1 : l0_1.length ≤ c0_1) (h : place_Children.f k l0_0 l0_1 a1 = some r) :
  Calls Tryd.prog 37 #[.agg #[.slice A0_0 l0_0.length c0_0, .slice A0_1 l0_1.length c0_1], .int .i64 a1] w fun e w' => ∃ v0_ : Value, e = .returned (v0_) ∧ Kd.R (Kd.int .i64) 3 w' w.heap.size (fun _ => True) v0_ r ∧ Below w.heap.size w w' := by
 have hu27 := Tryd.underlying27
 have HR0_0 := Aside0.mk hr0_0
 have HC0_0 := Aside0.mk hc0_0
 clear hr0_0 hc0_0
 have HR0_1 := Aside0.mk hr0_1
 have HC0_1 := Aside0.mk hc0_1
 clear hr0_1 hc0_1
 have HB := Aside0.mk (Below.refl w.heap.size w)
 have H : (place_Children.l0 k a1 ([] : List Int) l0_1 (l0_1.length : Int) 0) = some r := h
 clear h
 have H' := Aside0.mk H
 clear H
 go_enter Tryd.func37, Tryd.ntmps37
 go_wp2_with (first | ((with_reducible refine gate_dst (N := 2) rfl ?_); refine box_event ?hg (N := 2) ?hd (cs := #[.slice A0_0 l0_0.length c0_0, .slice A0_1 l0_1.length c0_1]) (t := 27) ?hr ?_; (case hd => rfl); (case hg => rfl); (case hr => first | (go_simp; done) | (go_simp; rfl)); intro gb112 hg w3 hbox hb; have n0_ := Aside0.mk (below_step (by repeat (first | (with_reducible first | exact HB.out | apply below_alloc | apply pw_below_drewN | apply below_drew1) | exact HB.out)) hb); have n1_ := Aside0.mk (hbox); have n2_ := Aside0.mk ((by rw [hg]; exact (below_size (by repeat (first | (with_reducible first | exact HB.out | apply below_alloc | apply pw_below_drewN | apply below_drew1) | exact HB.out))) : w.heap.size ≤ gb112)); have n3_ := Aside0.mk ((by rw [hg]; exact (below_size (by repeat (first | (with_reducible first | exact HB.out | apply below_alloc | apply pw_below_drewN | apply below_drew1) | exact HB.out))) : w.heap.size ≤ gb112)); clear HB; have HB := n0_; have BK112 := n1_; have GW112 := n2_; have GE112 := n3_; clear n0_ n1_ n2_ n3_; clear hb hbox hg; have hcz4_0 : w3.cell? ⟨gb112, 0, none⟩ = some (.slice A0_0 l0_0.length c0_0) := (blk_cell BK112.out 0).trans rfl; have hcz4_1 : w3.cell? ⟨gb112, 1, none⟩ = some (.slice A0_1 l0_1.length c0_1) := (blk_cell BK112.out 1).trans rfl; have hfz4_0 := blk_frozen BK112.out 0; have hfz4_1 := blk_frozen BK112.out 1))
 go_loopg [4, 10] k (fun kq v4 v10 w' => ∃ (x4_1 : List Int) (x10_1 : Int), v10 = .int .i64 x10_1 ∧ Aside0 (place_Children.l0 kq a1 x4_1 l0_1 (l0_1.length : Int) x10_1 = some r) ∧ Aside0 (kq ≤ k) ∧ Aside0 (Kd.R (Kd.int .i64) 3 w' w.heap.size (fun _ => True) v4 x4_1) ∧ Aside0 (w'.heap[gb112]? = some (.cells #[(.slice A0_0 l0_0.length c0_0), (.slice A0_1 l0_1.length c0_1)] 27 (0, 0))) ∧ Aside0 (Below w.heap.size w w'))
 case atStart => exact ⟨(([] : List Int)), (0), (by first | rfl | (simp; done) | (simp [*]; done)), H', ⟨Nat.le_refl _⟩, ⟨by first | exact Kd.R_nil _ _ _ _ _ | exact Kd.N_nil _ _ _ _ _ | exact Kd.V_nil _ _ _ _ _ | exact Kd.Q_nil _ _ _ _ _ | exact Kd.S_nil _ _ _ _ _⟩, ⟨by (with_reducible repeat (first | refine blk_drewN ?_ _ | refine blk_drew ?_ | refine blk_alloc ?_ _)); exact BK112.out⟩, ⟨by repeat (first | (with_reducible first | exact HB.out | apply below_alloc | apply pw_below_drewN | apply below_drew1 | refine below_set ?_ GE112.out) | exact HB.out)⟩⟩
 case round =>
  clear H'
  try clear p2
  try clear c3
  try clear hcz4_0
  try clear hcz4_1
  try clear hfz4_0
  try clear hfz4_1
  obtain ⟨x4_1, x10_1, rfl, HA, HK1, HO_4, BK112, HB⟩ := hrel
  cases gk with
  | zero => exact absurd HA.out (by simp [place_Children.l0])
  | succ k1 =>
   have H := HA.out
   clear HA
   simp only [place_Children.l0] at H
   by_cases c5 : x10_1 < (l0_1.length : Int)
   ·rw [if_pos c5] at H
    have c5b0 : decide (x10_1 < (l0_1.length : Int)) = true := decide_eq_true c5
    clear c5
    by_cases c6 : 0 ≤ x10_1
    ·rw [if_pos c6] at H
     have c6b0 : decide (0 ≤ x10_1) = true := decide_eq_true c6
     clear c6
     by_cases c7 : x10_1 < (l0_1.length : Int)
     ·rw [if_pos c7] at H
      have c7b0 : decide (x10_1 < (l0_1.length : Int)) = true := decide_eq_true c7
      clear c7
      by_cases c8 : (rd l0_1 x10_1) = a1
      ·rw [if_pos c8] at H
       have c8b0 : ((rd l0_1 x10_1) == a1) = true := beq_iff_eq.mpr c8
       have c8b1 : ((rd l0_1 x10_1) != a1) = false := bne_eq_false_iff_eq.mpr c8
       clear c8
       by_cases c9 : a1 ≥ 0
       ·rw [if_pos c9] at H
        have c9b0 : decide (0 ≤ a1) = true := decide_eq_true c9
        clear c9
        by_cases c10 : x4_1.length < 17592186044416
        ·rw [if_pos c10] at H
         have LMc10 := Aside0.mk c10
         clear c10
         obtain ⟨y114, hy114⟩ : ∃ y_ : List Int, y_ = (x4_1 ++ [x10_1]) := ⟨_, rfl⟩
         replace H : (place_Children.l0 k1 a1 y114 l0_1 (l0_1.length : Int) (wrap64 (x10_1 + 1))) = some r := by first | (rw [hy114]; with_reducible exact H) | (have H2_ := (Option.bind_some _ _).symm.trans H; rw [hy114]; with_reducible exact H2_) | (have H2_ := (Option.bind_some _ _).symm.trans H; with_reducible exact H2_) | with_reducible exact H | (rw [hy114]; exact H) | exact H
         have Ny114 := Aside0.mk hy114
         clear hy114
         have H' := Aside0.mk H
         clear H
         have p113 : 0 ≤ (x10_1 : Int) := of_decide_eq_true (by first | (with_reducible assumption) | assumption)
         have q113 : x10_1 < (l0_1.length : Int) := of_decide_eq_true (by first | (with_reducible assumption) | assumption)
         obtain ⟨ad113, e113, hx113_0⟩ := Kd.at_int HR0_1.out x10_1 p113 q113
         cases e113
         replace hx113_0 := (HB.out.cell (World.block_lt_of_cell? w _ hx113_0)).trans hx113_0
         replace p113 := eq_true p113
         replace q113 := eq_true q113
         go_wp2_with (first | ((with_reducible refine gate_builtin (b := .append) (xs := #[.tmp 22, .tmp 24]) rfl ?_); at_builtin; refine Kd.R_append (Kd.int .i64) (w0 := w) w.heap.size rfl (.tmp 22) (.tmp 24) 25 3 (.int .i64 0) 8 rfl Tryd.underlying25 info3 rfl (by decide) (by omega) u4 x4_1 x10_1 [.int .i64 x10_1] (fun _ => True) (fun _ => False) rfl rfl ?aP (fun _ hk => hk.elim) ?aF ?aO ?aB ?aS ?aL ?_; (case aP => exact rfl); (case aB => exact (by repeat (first | (with_reducible first | exact HB.out | apply below_alloc | apply pw_below_drewN | apply below_drew1 | refine below_set ?_ GE112.out) | exact HB.out))); (case aF => exact (fun _ _ => trivial)); (case aO => exact (by (with_reducible repeat (first | apply Kd.R_alloc | apply Kd.R_drewN | apply Kd.R_drew)); exact HO_4.out)); (case aS => exact (below_size (by repeat (first | (with_reducible first | exact HB.out | apply below_alloc | apply pw_below_drewN | apply below_drew1 | refine below_set ?_ GE112.out) | exact HB.out)))); (case aL => have := LMc10.out; omega); intro v115 w11 ho hb hg hat; rw [← Ny114.out] at ho; have n0_ := Aside0.mk (blk_grown (g := gb112) (o := .cells #[.slice A0_0 l0_0.length c0_0, .slice (some ad113) l0_1.length c0_1] 27 (0, 0)) (by (with_reducible repeat (first | refine blk_drewN ?_ _ | refine blk_drew ?_ | refine blk_alloc ?_ _)); exact BK112.out) hg (Kd.R_ne HO_4.out BK112.out (by decide))); have n1_ := Aside0.mk (hb); have n2_ := Aside0.mk (ho); clear BK112; clear HB; clear HO_4; have BK112 := n0_; have HB := n1_; have HO116 := n2_; clear n0_ n1_ n2_; clear ho hb hg hat))
         go_roundg k1
         case measure => have := HK1.out; omega
         case rel => exact ⟨(y114), (wrap64 (x10_1 + 1)), (by first | rfl | (simp; done) | (simp [*]; done)), H', ⟨by have := HK1.out; omega⟩, ⟨by (with_reducible repeat (first | apply Kd.R_alloc | apply Kd.R_drewN | apply Kd.R_drew)); exact HO116.out⟩, ⟨by (with_reducible repeat (first | refine blk_drewN ?_ _ | refine blk_drew ?_ | refine blk_alloc ?_ _)); exact BK112.out⟩, ⟨by repeat (first | (with_reducible first | exact HB.out | apply below_alloc | apply pw_below_drewN | apply below_drew1 | refine below_set ?_ GE112.out) | exact HB.out)⟩⟩
        ·rw [if_neg c10] at H
         exact absurd H (by simp)
       ·rw [if_neg c9] at H
        have c9b0 : decide (0 ≤ a1) = false := decide_eq_false c9
        clear c9
        have H' := Aside0.mk H
        clear H
        have p113 : 0 ≤ (x10_1 : Int) := of_decide_eq_true (by first | (with_reducible assumption) | assumption)
        have q113 : x10_1 < (l0_1.length : Int) := of_decide_eq_true (by first | (with_reducible assumption) | assumption)
        obtain ⟨ad113, e113, hx113_0⟩ := Kd.at_int HR0_1.out x10_1 p113 q113
        cases e113
        replace hx113_0 := (HB.out.cell (World.block_lt_of_cell? w _ hx113_0)).trans hx113_0
        replace p113 := eq_true p113
        replace q113 := eq_true q113
        go_wp2
        go_roundg k1
        case measure => have := HK1.out; omega
        case rel => exact ⟨(x4_1), (wrap64 (x10_1 + 1)), (by first | rfl | (simp; done) | (simp [*]; done)), H', ⟨by have := HK1.out; omega⟩, ⟨by (with_reducible repeat (first | apply Kd.R_alloc | apply Kd.R_drewN | apply Kd.R_drew)); exact HO_4.out⟩, ⟨by (with_reducible repeat (first | refine blk_drewN ?_ _ | refine blk_drew ?_ | refine blk_alloc ?_ _)); exact BK112.out⟩, ⟨by repeat (first | (with_reducible first | exact HB.out | apply below_alloc | apply pw_below_drewN | apply below_drew1 | refine below_set ?_ GE112.out) | exact HB.out)⟩⟩
      ·rw [if_neg c8] at H
       have c8b0 : ((rd l0_1 x10_1) == a1) = false := beq_eq_false_iff_ne.mpr c8
       have c8b1 : ((rd l0_1 x10_1) != a1) = true := bne_iff_ne.mpr c8
       have H' := Aside0.mk H
       clear H
       have p113 : 0 ≤ (x10_1 : Int) := of_decide_eq_true (by first | (with_reducible assumption) | assumption)
       have q113 : x10_1 < (l0_1.length : Int) := of_decide_eq_true (by first | (with_reducible assumption) | assumption)
       obtain ⟨ad113, e113, hx113_0⟩ := Kd.at_int HR0_1.out x10_1 p113 q113
       cases e113
       replace hx113_0 := (HB.out.cell (World.block_lt_of_cell? w _ hx113_0)).trans hx113_0
       replace p113 := eq_true p113
       replace q113 := eq_true q113
       go_wp2
       go_roundg k1
       case measure => have := HK1.out; omega
       case rel => exact ⟨(x4_1), (wrap64 (x10_1 + 1)), (by first | rfl | (simp; done) | (simp [*]; done)), H', ⟨by have := HK1.out; omega⟩, ⟨by (with_reducible repeat (first | apply Kd.R_alloc | apply Kd.R_drewN | apply Kd.R_drew)); exact HO_4.out⟩, ⟨by (with_reducible repeat (first | refine blk_drewN ?_ _ | refine blk_drew ?_ | refine blk_alloc ?_ _)); exact BK112.out⟩, ⟨by repeat (first | (with_reducible first | exact HB.out | apply below_alloc | apply pw_below_drewN | apply below_drew1 | refine below_set ?_ GE112.out) | exact HB.out)⟩⟩
     ·rw [if_neg c7] at H
      exact absurd H (by simp)
    ·rw [if_neg c6] at H
     exact absurd H (by simp)
   ·rw [if_neg c5] at H
    have c5b0 : decide (x10_1 < (l0_1.length : Int)) = false := decide_eq_false c5
    clear c5
    obtain rfl := Option.some.inj H
    go_wp2
    go_ret
    exact ⟨_, by first | rfl | (simp [errW_none, errW_some] <;> rfl) | (simp [*, errW_none, errW_some] <;> rfl), by (with_reducible repeat (first | apply Kd.R_alloc | apply Kd.R_drewN | apply Kd.R_drew)); exact HO_4.out, by repeat (first | (with_reducible first | exact HB.out | apply below_alloc | apply pw_below_drewN | apply below_drew1 | refine below_set ?_ GE112.out) | exact HB.out)⟩

end Go.Proofs.YtgejnljpdfjgpaaDoor.Q
namespace Go.Proofs.YtgejnljpdfjgpaaDoor.Q
open Go.RowKit Go.Proofs.YtgejnljpdfjgpaaDoorW.PrintWords Go.Proofs.YtgejnljpdfjgpaaDoorW.PrintLast Go.Proofs.YtgejnljpdfjgpaaDoorW.PrintMore
attribute [local go_sem] max2_int min2_int max_two min_two max_three min_three max_four min_four   -- for this text's walks alone
set_option linter.unusedVariables false
set_option linter.unusedSimpArgs false

/-! ### place_After: function 25 -/
mutual
def place_After.l0 : Nat → List Int → List Int → List (List Int) → List Int → Option (List Int)
 | 0, _, _, _, _ => none
 | k + 1, x2, x3, x118000, x118001 => if (x3.length : Int) > 0 then (place_After.j1 k x2 x3 (decide ((x2.length : Int) ≤ (x118001.length : Int))) x118000 x118001) else (place_After.j1 k x2 x3 false x118000 x118001)
def place_After.j1 : Nat → List Int → List Int → Bool → List (List Int) → List Int → Option (List Int)
 | 0, _, _, _, _, _ => none
 | k + 1, x2, x3, x19, x118000, x118001 => if x19 = true then (if 0 ≤ (wrap64 ((x3.length : Int) - 1)) then (if (wrap64 ((x3.length : Int) - 1)) < (x3.length : Int) then (if (wrap64 ((x3.length : Int) - 1)) ≤ (x3.length : Int) then ((some (x3.take ((wrap64 ((x3.length : Int) - 1)) : Int).toNat : List Int)).bind fun y123 => (if (rd x3 (wrap64 ((x3.length : Int) - 1))) < 0 then ((slices_Reverse_int_int.f k x2).bind fun t126 => (some t126)) else (if x2.length < 17592186044416 then ((place_Children.f k x118000 x118001 (rd x3 (wrap64 ((x3.length : Int) - 1)))).bind fun t130 => (if y123.length + t130.length < 17592186044416 then (place_After.l0 k (x2 ++ [rd x3 (wrap64 ((x3.length : Int) - 1))]) (y123 ++ t130) x118000 x118001) else (none))) else (none)))) else (none)) else (none)) else (none)) else ((slices_Reverse_int_int.f k x2).bind fun t136 => (some t136))
end
def place_After.f (k : Nat) (l0_0 : List (List Int)) (l0_1 : List Int) : Option (List Int) := (slices_Index_int_int.f k l0_1 (-1)).bind fun t118 => (place_After.l0 k ([] : List Int) (([t118] : List Int)) l0_0 l0_1)
theorem place_After.mono_l : ∀ k, (∀ y0 y1 y2 y3, LeO (place_After.l0 k y0 y1 y2 y3) (place_After.l0 (k + 1) y0 y1 y2 y3)) ∧ (∀ y0 y1 y2 y3 y4, LeO (place_After.j1 k y0 y1 y2 y3 y4) (place_After.j1 (k + 1) y0 y1 y2 y3 y4))
 | 0 => ⟨fun _ _ _ _ r h => by simp [place_After.l0] at h, fun _ _ _ _ _ r h => by simp [place_After.j1] at h⟩
 | k + 1 => by
  obtain ⟨ih0, ih1⟩ := place_After.mono_l k
  refine ⟨?_, ?_⟩
  ·intro y0 y1 y2 y3
   unfold place_After.l0
   repeat' first
   | (with_reducible exact ih0 _ _ _ _)
   | (with_reducible exact ih1 _ _ _ _ _)
   | (with_reducible exact place_Children.mono _ _ _ _)
   | (with_reducible exact slices_Index_int_int.mono _ _ _)
   | (with_reducible exact slices_Reverse_int_int.mono _ _)
   | (with_reducible exact LeO.refl _)
   | (with_reducible exact LeO.none _)
   | (with_reducible refine LeO.ite ?_ ?_)
   | (with_reducible refine LeO.bind ?_ (fun _ => ?_))
   | exact ih0 _ _ _ _
   | exact ih1 _ _ _ _ _
   | exact place_Children.mono _ _ _ _
   | exact slices_Index_int_int.mono _ _ _
   | exact slices_Reverse_int_int.mono _ _
   | exact LeO.none _
   | refine LeO.ite ?_ ?_
   | refine LeO.bind ?_ (fun _ => ?_)
  ·intro y0 y1 y2 y3 y4
   unfold place_After.j1
   repeat' first
   | (with_reducible exact ih0 _ _ _ _)
   | (with_reducible exact ih1 _ _ _ _ _)
   | (with_reducible exact place_Children.mono _ _ _ _)
   | (with_reducible exact slices_Index_int_int.mono _ _ _)
   | (with_reducible exact slices_Reverse_int_int.mono _ _)
   | (with_reducible exact LeO.refl _)
   | (with_reducible exact LeO.none _)
   | (with_reducible refine LeO.ite ?_ ?_)
   | (with_reducible refine LeO.bind ?_ (fun _ => ?_))
   | exact ih0 _ _ _ _
   | exact ih1 _ _ _ _ _
   | exact place_Children.mono _ _ _ _
   | exact slices_Index_int_int.mono _ _ _
   | exact slices_Reverse_int_int.mono _ _
   | exact LeO.none _
   | refine LeO.ite ?_ ?_
   | refine LeO.bind ?_ (fun _ => ?_)
theorem place_After.mono : ∀ a0 a1 k, LeO (place_After.f k a0 a1) (place_After.f (k + 1) a0 a1) := by
 intro a0 a1 k
 obtain ⟨ih0, ih1⟩ := place_After.mono_l k
 unfold place_After.f
 repeat' first
   | (with_reducible exact ih0 _ _ _ _)
   | (with_reducible exact ih1 _ _ _ _ _)
   | (with_reducible exact place_Children.mono _ _ _ _)
   | (with_reducible exact slices_Index_int_int.mono _ _ _)
   | (with_reducible exact slices_Reverse_int_int.mono _ _)
   | (with_reducible exact LeO.refl _)
   | (with_reducible exact LeO.none _)
   | (with_reducible refine LeO.ite ?_ ?_)
   | (with_reducible refine LeO.bind ?_ (fun _ => ?_))
   | exact ih0 _ _ _ _
   | exact ih1 _ _ _ _ _
   | exact place_Children.mono _ _ _ _
   | exact slices_Index_int_int.mono _ _ _
   | exact slices_Reverse_int_int.mono _ _
   | exact LeO.none _
   | refine LeO.ite ?_ ?_
   | refine LeO.bind ?_ (fun _ => ?_)
set_option maxHeartbeats 8000000 in
set_option maxRecDepth 100000 in
theorem place_After.calls (k : Nat) (A0_0 : Option Addr) (c0_0 : Nat) (l0_0 : List (List Int)) (A0_1 : Option Addr) (c0_1 : Nat) (l0_1 : List Int) (r : List Int) (w : World) (hr0_0 : Kd.C (Kd.slice 3 (Kd.int .i64)) w A0_0 l0_0.length l0_0) (hc0_0 : l0_0.length ≤ c0_0) (hr0_1 : Kd.C (Kd.int .i64) w A0_1 l0_1.length l0_1) (hc0_1 : l0_1.length ≤ c0_1) (h : place_After.f k l0_0 l0_1 = some r) :
  Calls Tryd.prog 25 #[.agg #[.slice A0_0 l0_0.length c0_0, .slice A0_1 l0_1.length c0_1]] w fun e w' => ∃ v0_ : Value, e = .returned (v0_) ∧ Kd.R (Kd.int .i64) 3 w' w.heap.size (fun _ => True) v0_ r ∧ Below w.heap.size w w' := by
 have hu27 := Tryd.underlying27
 have HR0_0 := Aside0.mk hr0_0
 have HC0_0 := Aside0.mk hc0_0
 clear hr0_0 hc0_0
 have HR0_1 := Aside0.mk hr0_1
 have HC0_1 := Aside0.mk hc0_1
 clear hr0_1 hc0_1
 have HB := Aside0.mk (Below.refl w.heap.size w)
 have H : ((slices_Index_int_int.f k l0_1 (-1)).bind fun t118 => (place_After.l0 k ([] : List Int) (([t118] : List Int)) l0_0 l0_1)) = some r := h
 clear h
 replace H := Option.bind_eq_some_iff.mp H
 obtain ⟨t118, A20, H⟩ := H
 replace H : (place_After.l0 k ([] : List Int) (([t118] : List Int)) l0_0 l0_1) = some r := H
 have A2 := Aside0.mk A20
 clear A20
 obtain ⟨y119, hy119⟩ : ∃ y_ : List Int, y_ = (([t118] : List Int)) := ⟨_, rfl⟩
 replace H : (place_After.l0 k ([] : List Int) y119 l0_0 l0_1) = some r := by first | (rw [hy119]; with_reducible exact H) | (have H2_ := (Option.bind_some _ _).symm.trans H; rw [hy119]; with_reducible exact H2_) | (have H2_ := (Option.bind_some _ _).symm.trans H; with_reducible exact H2_) | with_reducible exact H | (rw [hy119]; exact H) | exact H
 have Ny119 := Aside0.mk hy119
 clear hy119
 have H' := Aside0.mk H
 clear H
 go_enter Tryd.func25, Tryd.ntmps25
 go_wp2_with (first | ((with_reducible refine gate_dst (N := 1) rfl ?_); (try (refine gate_guard (by rfl) ?_; dsimp only)); refine box_event ?hg (N := 1) ?hd (cs := #[.slice A0_0 l0_0.length c0_0, .slice A0_1 l0_1.length c0_1]) (t := 27) ?hr ?_; (case hd => rfl); (case hg => rfl); (case hr => first | (go_simp; done) | (go_simp; rfl)); intro gb117 hg w3 hbox hb; have n0_ := Aside0.mk (below_step (by repeat (first | (with_reducible first | exact HB.out | apply below_alloc | apply pw_below_drewN | apply below_drew1) | exact HB.out)) hb); have n1_ := Aside0.mk (hbox); have n2_ := Aside0.mk ((by rw [hg]; exact (below_size (by repeat (first | (with_reducible first | exact HB.out | apply below_alloc | apply pw_below_drewN | apply below_drew1) | exact HB.out))) : w.heap.size ≤ gb117)); have n3_ := Aside0.mk ((by rw [hg]; exact (below_size (by repeat (first | (with_reducible first | exact HB.out | apply below_alloc | apply pw_below_drewN | apply below_drew1) | exact HB.out))) : w.heap.size ≤ gb117)); clear HB; have HB := n0_; have BK117 := n1_; have GW117 := n2_; have GE117 := n3_; clear n0_ n1_ n2_ n3_; clear hb hbox hg; have hcz4_0 : w3.cell? ⟨gb117, 0, none⟩ = some (.slice A0_0 l0_0.length c0_0) := (blk_cell BK117.out 0).trans rfl; have hcz4_1 : w3.cell? ⟨gb117, 1, none⟩ = some (.slice A0_1 l0_1.length c0_1) := (blk_cell BK117.out 1).trans rfl; have hfz4_0 := blk_frozen BK117.out 0; have hfz4_1 := blk_frozen BK117.out 1) | ((with_reducible refine gate_callee (f := 36) rfl ?_); refine goesL_ (some 7) rfl rfl Tryd.func36 (by kernel_rfl) rfl #[.slice A0_1 l0_1.length c0_1, .int .i64 (-1)] rfl (by (try simp only [List.map_toArray, List.map_cons, List.map_nil]); first | done | rfl | (simp only [List.length_drop, List.length_take]; rfl)) ?_; (with_reducible refine (slices_Index_int_int.calls k _ _ l0_1 (-1) t118 _ ?side1 ?side2 A2.out).mono ?_); (case side1 => repeat (first | exact (Kd.C_below HR0_1.out HB.out) | (with_reducible refine Kd.C_alloc ?_ _) | (with_reducible refine Kd.C_drewN ?_ _) | (with_reducible refine Kd.C_drew ?_))); (case side2 => exact HC0_1.out); rintro e w' ⟨rfl, ⟨nd, rfl⟩⟩; refine ⟨_, rfl, ?_⟩) | ((with_reducible refine gate_dst (N := 8) rfl ?_); (try (refine gate_guard (by rfl) ?_; dsimp only)); refine Kd.R_lit (Kd.int .i64) _ 3 ?hg (N := 8) ?hd (xs := ([t118] : List Int)) (inner := [.int .i64 t118]) (ok := fun _ => True) (okp := fun _ => True) ?hr ?hp (fun _ hk => hk) trivial (Below.refl _ _) (Nat.le_refl _) (by simp) ?_; (case hd => rfl); (case hg => rfl); (case hr => first | (go_simp; done) | (go_simp; rfl)); (case hp => exact (Reps.one (show Kd.M (Kd.int .i64) _ _ _ t118 [.int .i64 t118] from rfl) (Reps.none _ _))); intro v120 w5 ho6 hb hg_ hnew_; clear hg_ hnew_; (first | rw [← Ny119.out] at ho6 | (simp only [Int.reduceToNat] at ho6; rw [← Ny119.out] at ho6)); have n0_ := Aside0.mk (Kd.R_lower ho6 (below_size (by repeat (first | (with_reducible first | exact HB.out | apply below_alloc | apply pw_below_drewN | apply below_drew1 | refine below_set ?_ GE117.out) | exact HB.out)))); have n1_ := Aside0.mk (blk_below (g := gb117) (o := .cells #[.slice A0_0 l0_0.length c0_0, .slice A0_1 l0_1.length c0_1] 27 (0, 0)) (by (with_reducible repeat (first | refine blk_drewN ?_ _ | refine blk_drew ?_ | refine blk_alloc ?_ _)); exact BK117.out) hb); have n2_ := Aside0.mk (below_step (by repeat (first | (with_reducible first | exact HB.out | apply below_alloc | apply pw_below_drewN | apply below_drew1 | refine below_set ?_ GE117.out) | exact HB.out)) hb); clear BK117; clear HB; have HO121 := n0_; have BK117 := n1_; have HB := n2_; clear n0_ n1_ n2_; clear hb ho6))
 go_loopg [2, 3] k (fun kq v2 v3 w' => ∃ (x2_1 : List Int) (x3_1 : List Int), Aside0 (place_After.l0 kq x2_1 x3_1 l0_0 l0_1 = some r) ∧ Aside0 (kq ≤ k) ∧ Aside0 (Kd.R (Kd.int .i64) 3 w' w.heap.size (fun k_ => some k_ ≠ (v3 : Value).ownBlock) v2 x2_1) ∧ Aside0 (Kd.R (Kd.int .i64) 3 w' w.heap.size (fun k_ => some k_ ≠ (v2 : Value).ownBlock) v3 x3_1) ∧ Aside0 (w'.heap[gb117]? = some (.cells #[(.slice A0_0 l0_0.length c0_0), (.slice A0_1 l0_1.length c0_1)] 27 (0, 0))) ∧ Aside0 (Below w.heap.size w w'))
 case atStart => exact ⟨(([] : List Int)), (y119), H', ⟨Nat.le_refl _⟩, ⟨by first | exact Kd.R_nil _ _ _ _ _ | exact Kd.N_nil _ _ _ _ _ | exact Kd.V_nil _ _ _ _ _ | exact Kd.Q_nil _ _ _ _ _ | exact Kd.S_nil _ _ _ _ _⟩, ⟨by (with_reducible repeat (first | apply Kd.R_alloc | apply Kd.R_drewN | apply Kd.R_drew)); exact Kd.R_mono HO121.out (fun _ hk => (by simp [Value.ownBlock]))⟩, ⟨by (with_reducible repeat (first | refine blk_drewN ?_ _ | refine blk_drew ?_ | refine blk_alloc ?_ _)); exact BK117.out⟩, ⟨by repeat (first | (with_reducible first | exact HB.out | apply below_alloc | apply pw_below_drewN | apply below_drew1 | refine below_set ?_ GE117.out) | exact HB.out)⟩⟩
 case round =>
  clear H'
  try clear c2
  try clear p2
  try clear c3
  try clear hcz4_0
  try clear hcz4_1
  try clear hfz4_0
  try clear hfz4_1
  obtain ⟨x2_1, x3_1, HA, HK1, HO_2, HO_3, BK117, HB⟩ := hrel
  cases gk with
  | zero => exact absurd HA.out (by simp [place_After.l0])
  | succ k1 =>
   have H := HA.out
   clear HA
   simp only [place_After.l0] at H
   have HC7 := Aside0.mk H
   clear H
   go_upto_region 2 with (fail)
   go_cut [19] (fun v19 wc => ∃ (kq : Nat) (x19_6 : Bool), v19 = .bool x19_6 ∧ Aside0 (place_After.j1 kq x2_1 x3_1 x19_6 l0_0 l0_1 = some r) ∧ Aside0 (kq ≤ k1) ∧ Aside0 (Kd.R (Kd.int .i64) 3 wc w.heap.size (fun k_ => some k_ ≠ (u3 : Value).ownBlock) u2 x2_1) ∧ Aside0 (Kd.R (Kd.int .i64) 3 wc w.heap.size (fun k_ => some k_ ≠ (u2 : Value).ownBlock) u3 x3_1) ∧ Aside0 (wc.heap[gb117]? = some (.cells #[(.slice A0_0 l0_0.length c0_0), (.slice A0_1 l0_1.length c0_1)] 27 (0, 0))) ∧ Aside0 (Below w.heap.size w wc))
   case first =>
    have H := HC7.out
    clear HC7
    by_cases c8 : (x3_1.length : Int) > 0
    ·rw [if_pos c8] at H
     have c8b0 : decide (0 < (x3_1.length : Int)) = true := decide_eq_true c8
     have c8b1 : decide (0 < x3_1.length) = true := decide_eq_true (by omega)
     clear c8
     (first | rw [c8b0] | (simp only [i64_w, i32_w]; rw [c8b0]) | skip)
     have H' := Aside0.mk H
     clear H
     obtain ⟨Ao9, co9, eo9⟩ := Kd.R_slice HO_3.out
     subst eo9
     obtain ⟨Ao10, co10, eo10⟩ := Kd.R_slice HO_2.out
     subst eo10
     have hcz11_0 : wr.cell? ⟨gb117, 0, none⟩ = some (.slice A0_0 l0_0.length c0_0) := (blk_cell BK117.out 0).trans rfl
     have hcz11_1 : wr.cell? ⟨gb117, 1, none⟩ = some (.slice A0_1 l0_1.length c0_1) := (blk_cell BK117.out 1).trans rfl
     have hfz11_0 := blk_frozen BK117.out 0
     have hfz11_1 := blk_frozen BK117.out 1
     go_wp2
     go_meet
     case rel => exact ⟨_, (decide ((x2_1.length : Int) ≤ (l0_1.length : Int))), (by first | rfl | (simp; done) | (simp [*]; done)), H', ⟨by have := HK1.out; first | omega | exact Nat.le_refl _⟩, ⟨by (with_reducible repeat (first | apply Kd.R_alloc | apply Kd.R_drewN | apply Kd.R_drew)); exact HO_2.out⟩, ⟨by (with_reducible repeat (first | apply Kd.R_alloc | apply Kd.R_drewN | apply Kd.R_drew)); exact HO_3.out⟩, ⟨by (with_reducible repeat (first | refine blk_drewN ?_ _ | refine blk_drew ?_ | refine blk_alloc ?_ _)); exact BK117.out⟩, ⟨by repeat (first | (with_reducible first | exact HB.out | apply below_alloc | apply pw_below_drewN | apply below_drew1 | refine below_set ?_ GE117.out) | exact HB.out)⟩⟩
    ·rw [if_neg c8] at H
     have c8b0 : decide (0 < (x3_1.length : Int)) = false := decide_eq_false c8
     have c8b1 : decide (0 < x3_1.length) = false := decide_eq_false (by omega)
     clear c8
     (first | rw [c8b0] | (simp only [i64_w, i32_w]; rw [c8b0]) | skip)
     have H' := Aside0.mk H
     clear H
     obtain ⟨Ao12, co12, eo12⟩ := Kd.R_slice HO_3.out
     subst eo12
     go_wp2
     go_meet
     case rel => exact ⟨_, (false), (by first | rfl | (simp; done) | (simp [*]; done)), H', ⟨by have := HK1.out; first | omega | exact Nat.le_refl _⟩, ⟨by (with_reducible repeat (first | apply Kd.R_alloc | apply Kd.R_drewN | apply Kd.R_drew)); exact HO_2.out⟩, ⟨by (with_reducible repeat (first | apply Kd.R_alloc | apply Kd.R_drewN | apply Kd.R_drew)); exact HO_3.out⟩, ⟨by (with_reducible repeat (first | refine blk_drewN ?_ _ | refine blk_drew ?_ | refine blk_alloc ?_ _)); exact BK117.out⟩, ⟨by repeat (first | (with_reducible first | exact HB.out | apply below_alloc | apply pw_below_drewN | apply below_drew1 | refine below_set ?_ GE117.out) | exact HB.out)⟩⟩
   case rest =>
    clear HC7
    try clear c2
    try clear p2
    try clear c3
    try clear c8
    try clear c8b0
    try clear c8b1
    try clear hcz11_0
    try clear hcz11_1
    try clear hcz4_0
    try clear hcz4_1
    try clear hfz11_0
    try clear hfz11_1
    try clear hfz4_0
    try clear hfz4_1
    try clear p2
    obtain ⟨kq, x19_6, rfl, HA, HJ6, HO_2, HO_3, BK117, HB⟩ := hcut
    cases kq with
    | zero => exact absurd HA.out (by simp [place_After.j1])
    | succ kj6 =>
     have H := HA.out
     clear HA
     simp only [place_After.j1] at H
     by_cases c13 : x19_6 = true
     ·subst c13
      have H1 : (if 0 ≤ (wrap64 ((x3_1.length : Int) - 1)) then (if (wrap64 ((x3_1.length : Int) - 1)) < (x3_1.length : Int) then (if (wrap64 ((x3_1.length : Int) - 1)) ≤ (x3_1.length : Int) then ((some (x3_1.take ((wrap64 ((x3_1.length : Int) - 1)) : Int).toNat : List Int)).bind fun y123 => (if (rd x3_1 (wrap64 ((x3_1.length : Int) - 1))) < 0 then ((slices_Reverse_int_int.f kj6 x2_1).bind fun t126 => (some t126)) else (if x2_1.length < 17592186044416 then ((place_Children.f kj6 l0_0 l0_1 (rd x3_1 (wrap64 ((x3_1.length : Int) - 1)))).bind fun t130 => (if y123.length + t130.length < 17592186044416 then (place_After.l0 kj6 (x2_1 ++ [rd x3_1 (wrap64 ((x3_1.length : Int) - 1))]) (y123 ++ t130) l0_0 l0_1) else (none))) else (none)))) else (none)) else (none)) else (none)) = some r := by rw [if_pos rfl] at H; exact H
      clear H
      have H := H1
      clear H1
      obtain ⟨ji14, hji14⟩ : ∃ j_ : Int, (wrap64 ((x3_1.length : Int) - 1)) = j_ := ⟨_, rfl⟩
      replace H : (if 0 ≤ (ji14) then (if (ji14) < (x3_1.length : Int) then (if (ji14) ≤ (x3_1.length : Int) then ((some (x3_1.take ((ji14) : Int).toNat : List Int)).bind fun y123 => (if (rd x3_1 (ji14)) < 0 then ((slices_Reverse_int_int.f kj6 x2_1).bind fun t126 => (some t126)) else (if x2_1.length < 17592186044416 then ((place_Children.f kj6 l0_0 l0_1 (rd x3_1 (ji14))).bind fun t130 => (if y123.length + t130.length < 17592186044416 then (place_After.l0 kj6 (x2_1 ++ [rd x3_1 (ji14)]) (y123 ++ t130) l0_0 l0_1) else (none))) else (none)))) else (none)) else (none)) else (none)) = some r := by first | (rw [hji14] at H; exact H) | (simp only [hji14] at H ⊢; exact H)
      have hji14w : (IntKind.i64.wrap ((x3_1.length : Int) - 1)) = ji14 := (i64_w _).trans hji14
      by_cases c15 : 0 ≤ (ji14)
      ·rw [if_pos c15] at H
       have c15b0 : decide (0 ≤ (ji14)) = true := decide_eq_true c15
       clear c15
       by_cases c16 : (ji14) < (x3_1.length : Int)
       ·rw [if_pos c16] at H
        have c16b0 : decide ((ji14) < (x3_1.length : Int)) = true := decide_eq_true c16
        clear c16
        by_cases c17 : (ji14) ≤ (x3_1.length : Int)
        ·rw [if_pos c17] at H
         have c17b0 := eq_true c17
         have c17b1 : decide ((ji14) ≤ (x3_1.length : Int)) = true := decide_eq_true c17
         clear c17
         obtain ⟨y123, hy123⟩ : ∃ y_ : List Int, y_ = (x3_1.take ((ji14) : Int).toNat) := ⟨_, rfl⟩
         replace H : (if (rd x3_1 (ji14)) < 0 then ((slices_Reverse_int_int.f kj6 x2_1).bind fun t126 => (some t126)) else (if x2_1.length < 17592186044416 then ((place_Children.f kj6 l0_0 l0_1 (rd x3_1 (ji14))).bind fun t130 => (if y123.length + t130.length < 17592186044416 then (place_After.l0 kj6 (x2_1 ++ [rd x3_1 (ji14)]) (y123 ++ t130) l0_0 l0_1) else (none))) else (none))) = some r := by first | (rw [hy123]; with_reducible exact H) | (have H2_ := (Option.bind_some _ _).symm.trans H; rw [hy123]; with_reducible exact H2_) | (have H2_ := (Option.bind_some _ _).symm.trans H; with_reducible exact H2_) | with_reducible exact H | (rw [hy123]; exact H) | exact H
         have Ny123 := Aside0.mk hy123
         clear hy123
         by_cases c18 : (rd x3_1 (ji14)) < 0
         ·rw [if_pos c18] at H
          have c18b0 : decide ((rd x3_1 (ji14)) < 0) = true := decide_eq_true c18
          clear c18
          replace H := Option.bind_eq_some_iff.mp H
          obtain ⟨t126, A190, H⟩ := H
          replace H : (some t126) = some r := H
          have A19 := Aside0.mk A190
          clear A190
          obtain rfl := Option.some.inj H
          obtain ⟨Ao20, co20, eo20⟩ := Kd.R_slice HO_3.out
          subst eo20
          have p122 : 0 ≤ ((ji14) : Int) := of_decide_eq_true (by first | (with_reducible assumption) | assumption)
          have q122 : (ji14) < (x3_1.length : Int) := of_decide_eq_true (by first | (with_reducible assumption) | assumption)
          obtain ⟨ad122, e122, hx122_0⟩ := Kd.at_int (Kd.R_reads' HO_3.out).2.2 (ji14) p122 q122
          cases e122
          replace p122 := eq_true p122
          replace q122 := eq_true q122
          have q21 : ((ji14) : Int) ≤ ((x3_1.length : Int) : Int) := of_decide_eq_true (by first | (with_reducible assumption) | assumption)
          obtain ⟨i021, hi021, _, hsz21, _⟩ := info_parts info3
          have hcut21 := cut_to (P := Tryd.prog) 25 3 .i64 Tryd.underlying25 hi021 (some ad122) x3_1.length co20 (ji14) (of_decide_eq_true (by first | (with_reducible assumption) | assumption)) q21 (Kd.R_reads' HO_3.out).2.1
          have hr21 := Kd.R_take (m := ((ji14) : Int).toNat) HO_3.out (by omega)
          have hy21 : y123.length = ((ji14) : Int).toNat := (by rw [Ny123.out, List.length_take]; omega)
          rw [← Ny123.out] at hr21
          rw [← hy21] at hr21 hcut21
          clear hy21 hi021 hsz21 HO_3
          have HO125 := Aside0.mk hr21
          clear hr21
          replace q21 := eq_true q21
          obtain ⟨Ao22, co22, eo22⟩ := Kd.R_slice HO_2.out
          subst eo22
          go_wp2_with (first | ((with_reducible refine gate_callee (f := 26) rfl ?_); refine goesL_ (some 43) rfl rfl Tryd.func26 (by kernel_rfl) rfl #[.slice Ao22 x2_1.length co22] rfl (by (try simp only [List.map_toArray, List.map_cons, List.map_nil]); first | done | rfl | (simp only [List.length_drop, List.length_take]; rfl)) ?_; (with_reducible refine (slices_Reverse_int_int.calls kj6 (fun k_ => some k_ = (.slice Ao22 x2_1.length co22 : Value).ownBlock) (.slice Ao22 x2_1.length co22) x2_1 t126 w _ ?side1 ?side2 A19.out).mono ?_); (case side1 => repeat (first | (with_reducible first | exact HB.out | apply below_alloc | apply pw_below_drewN | apply below_drew1 | refine below_set ?_ GE117.out) | exact HB.out)); (case side2 => exact Kd.R_tight rfl HO_2.out); rintro e w23 ⟨rfl, hy0, hb, hkp⟩; refine ⟨_, rfl, ?_⟩; have n0_ := Aside0.mk (Kd.R_reok rfl hy0 (fun k_ e_ => HO_2.out.1 k_ e_)); have n1_ := Aside0.mk (Kd.R_mono (ok' := fun k_ => some k_ ≠ (.slice Ao22 x2_1.length co22 : Value).ownBlock) (Kd.R_keptB (HO125.out) hkp (fun k_ hk_ hs_ => (hk_) hs_)) (fun k_ hk_ => hk_.1)); have n2_ := Aside0.mk (blk_kept (by (with_reducible repeat (first | refine blk_drewN ?_ _ | refine blk_drew ?_ | refine blk_alloc ?_ _)); exact BK117.out) hkp (fun hs_ => (fun e_ => (Kd.R_ne HO_2.out BK117.out (by decide)) e_) hs_)); have n3_ := Aside0.mk (hb); clear HO_2; clear HO125; clear BK117; clear HB; have HO_2 := n0_; have HO125 := n1_; have BK117 := n2_; have HB := n3_; clear n0_ n1_ n2_ n3_; (try clear hb); (try clear hkp); (try clear hy0)))
          go_ret
          exact ⟨_, by first | rfl | (simp [errW_none, errW_some] <;> rfl) | (simp only [← hji14]; first | rfl | (simp [errW_none, errW_some] <;> rfl)) | (simp [*, errW_none, errW_some] <;> rfl), by (with_reducible repeat (first | apply Kd.R_alloc | apply Kd.R_drewN | apply Kd.R_drew)); exact Kd.R_mono HO_2.out (fun _ hk => trivial), by repeat (first | (with_reducible first | exact HB.out | apply below_alloc | apply pw_below_drewN | apply below_drew1 | refine below_set ?_ GE117.out) | exact HB.out)⟩
         ·rw [if_neg c18] at H
          have c18b0 : decide ((rd x3_1 (ji14)) < 0) = false := decide_eq_false c18
          clear c18
          by_cases c24 : x2_1.length < 17592186044416
          ·rw [if_pos c24] at H
           have LMc24 := Aside0.mk c24
           clear c24
           obtain ⟨y127, hy127⟩ : ∃ y_ : List Int, y_ = (x2_1 ++ [rd x3_1 (ji14)]) := ⟨_, rfl⟩
           replace H : ((place_Children.f kj6 l0_0 l0_1 (rd x3_1 (ji14))).bind fun t130 => (if y123.length + t130.length < 17592186044416 then (place_After.l0 kj6 y127 (y123 ++ t130) l0_0 l0_1) else (none))) = some r := by first | (rw [hy127]; with_reducible exact H) | (have H2_ := (Option.bind_some _ _).symm.trans H; rw [hy127]; with_reducible exact H2_) | (have H2_ := (Option.bind_some _ _).symm.trans H; with_reducible exact H2_) | with_reducible exact H | (rw [hy127]; exact H) | exact H
           have Ny127 := Aside0.mk hy127
           clear hy127
           replace H := Option.bind_eq_some_iff.mp H
           obtain ⟨t130, A250, H⟩ := H
           replace H : (if y123.length + t130.length < 17592186044416 then (place_After.l0 kj6 y127 (y123 ++ t130) l0_0 l0_1) else (none)) = some r := H
           have A25 := Aside0.mk A250
           clear A250
           by_cases c26 : y123.length + t130.length < 17592186044416
           ·rw [if_pos c26] at H
            have LMc26 := Aside0.mk c26
            clear c26
            obtain ⟨y133, hy133⟩ : ∃ y_ : List Int, y_ = (y123 ++ t130) := ⟨_, rfl⟩
            replace H : (place_After.l0 kj6 y127 y133 l0_0 l0_1) = some r := by first | (rw [hy133]; with_reducible exact H) | (have H2_ := (Option.bind_some _ _).symm.trans H; rw [hy133]; with_reducible exact H2_) | (have H2_ := (Option.bind_some _ _).symm.trans H; with_reducible exact H2_) | with_reducible exact H | (rw [hy133]; exact H) | exact H
            have Ny133 := Aside0.mk hy133
            clear hy133
            have H' := Aside0.mk H
            clear H
            obtain ⟨Ao27, co27, eo27⟩ := Kd.R_slice HO_3.out
            subst eo27
            have p122 : 0 ≤ ((ji14) : Int) := of_decide_eq_true (by first | (with_reducible assumption) | assumption)
            have q122 : (ji14) < (x3_1.length : Int) := of_decide_eq_true (by first | (with_reducible assumption) | assumption)
            obtain ⟨ad122, e122, hx122_0⟩ := Kd.at_int (Kd.R_reads' HO_3.out).2.2 (ji14) p122 q122
            cases e122
            replace p122 := eq_true p122
            replace q122 := eq_true q122
            have q28 : ((ji14) : Int) ≤ ((x3_1.length : Int) : Int) := of_decide_eq_true (by first | (with_reducible assumption) | assumption)
            obtain ⟨i028, hi028, _, hsz28, _⟩ := info_parts info3
            have hcut28 := cut_to (P := Tryd.prog) 25 3 .i64 Tryd.underlying25 hi028 (some ad122) x3_1.length co27 (ji14) (of_decide_eq_true (by first | (with_reducible assumption) | assumption)) q28 (Kd.R_reads' HO_3.out).2.1
            have hr28 := Kd.R_take (m := ((ji14) : Int).toNat) HO_3.out (by omega)
            have hy28 : y123.length = ((ji14) : Int).toNat := (by rw [Ny123.out, List.length_take]; omega)
            rw [← Ny123.out] at hr28
            rw [← hy28] at hr28 hcut28
            clear hy28 hi028 hsz28 HO_3
            have HO125 := Aside0.mk hr28
            clear hr28
            replace q28 := eq_true q28
            go_wp2_with (first | ((with_reducible refine gate_builtin (b := .append) (xs := #[.tmp 33, .tmp 35]) rfl ?_); (try (refine gate_guard (by rfl) ?_; dsimp only)); at_builtin; refine Kd.R_append (Kd.int .i64) (w0 := w) w.heap.size rfl (.tmp 33) (.tmp 35) 25 3 (.int .i64 0) 8 rfl Tryd.underlying25 info3 rfl (by decide) (by omega) u2 x2_1 (rd x3_1 (ji14)) [.int .i64 (rd x3_1 (ji14))] (fun k_ => some k_ ≠ (.slice (some ad122) y123.length co27 : Value).ownBlock) (fun _ => False) rfl rfl ?aP (fun _ hk => hk.elim) ?aF ?aO ?aB ?aS ?aL ?_; (case aP => exact rfl); (case aB => exact (by repeat (first | (with_reducible first | exact HB.out | apply below_alloc | apply pw_below_drewN | apply below_drew1 | refine below_set ?_ GE117.out) | exact HB.out))); (case aF => exact (fun k_ hk => Kd.fresh' (Kd.R_lt (by (with_reducible repeat (first | apply Kd.R_alloc | apply Kd.R_drewN | apply Kd.R_drew)); exact HO125.out)) k_ hk)); (case aO => exact (by (with_reducible repeat (first | apply Kd.R_alloc | apply Kd.R_drewN | apply Kd.R_drew)); exact HO_2.out)); (case aS => exact (below_size (by repeat (first | (with_reducible first | exact HB.out | apply below_alloc | apply pw_below_drewN | apply below_drew1 | refine below_set ?_ GE117.out) | exact HB.out)))); (case aL => have := LMc24.out; omega); intro v128 w29 ho hb hg hat; rw [← Ny127.out] at ho; have n0_ := Aside0.mk (Kd.R_after (ok := (fun _ => True)) (by (with_reducible repeat (first | apply Kd.R_alloc | apply Kd.R_drewN | apply Kd.R_drew)); exact Kd.R_mono HO125.out (fun _ hk => ⟨trivial, hk⟩)) hg hat); have n1_ := Aside0.mk (blk_grown (g := gb117) (o := .cells #[.slice A0_0 l0_0.length c0_0, .slice A0_1 l0_1.length c0_1] 27 (0, 0)) (by (with_reducible repeat (first | refine blk_drewN ?_ _ | refine blk_drew ?_ | refine blk_alloc ?_ _)); exact BK117.out) hg (Kd.R_ne HO_2.out BK117.out (by decide))); have n2_ := Aside0.mk (hb); have n3_ := Aside0.mk (ho); clear HO125; clear BK117; clear HB; clear HO_2; have HO125 := n0_; have BK117 := n1_; have HB := n2_; have HO129 := n3_; clear n0_ n1_ n2_ n3_; clear ho hb hg hat; have hcz30_0 : w29.cell? ⟨gb117, 0, none⟩ = some (.slice A0_0 l0_0.length c0_0) := (blk_cell BK117.out 0).trans rfl; have hcz30_1 : w29.cell? ⟨gb117, 1, none⟩ = some (.slice A0_1 l0_1.length c0_1) := (blk_cell BK117.out 1).trans rfl; have hfz30_0 := blk_frozen BK117.out 0; have hfz30_1 := blk_frozen BK117.out 1) | ((with_reducible refine gate_callee (f := 37) rfl ?_); refine goesL_ (some 40) rfl rfl Tryd.func37 (by kernel_rfl) rfl #[.agg #[.slice A0_0 l0_0.length c0_0, .slice A0_1 l0_1.length c0_1], .int .i64 (rd x3_1 (ji14))] rfl (by (try simp only [List.map_toArray, List.map_cons, List.map_nil]); first | done | (simp only [hji14]; rfl) | rfl | (simp only [List.length_drop, List.length_take]; rfl)) ?_; (with_reducible refine (place_Children.calls kj6 _ _ l0_0 _ _ l0_1 (rd x3_1 (ji14)) t130 _ ?side1 ?side2 ?side3 ?side4 A25.out).mono ?_); (case side1 => repeat (first | exact (Kd.C_below HR0_0.out HB.out) | (with_reducible refine Kd.C_alloc ?_ _) | (with_reducible refine Kd.C_drewN ?_ _) | (with_reducible refine Kd.C_drew ?_))); (case side2 => exact HC0_0.out); (case side3 => repeat (first | exact (Kd.C_below HR0_1.out HB.out) | (with_reducible refine Kd.C_alloc ?_ _) | (with_reducible refine Kd.C_drewN ?_ _) | (with_reducible refine Kd.C_drew ?_))); (case side4 => exact HC0_1.out); rintro e w31 ⟨v131, rfl, ho0, hb⟩; refine ⟨_, rfl, ?_⟩; have n0_ := Aside0.mk (Kd.R_elder' (by (with_reducible repeat (first | apply Kd.R_alloc | apply Kd.R_drewN | apply Kd.R_drew)); exact HO125.out) (Kd.R_base ho0) hb); have n1_ := Aside0.mk (Kd.R_elder' (by (with_reducible repeat (first | apply Kd.R_alloc | apply Kd.R_drewN | apply Kd.R_drew)); exact HO129.out) (Kd.R_base ho0) hb); have n2_ := Aside0.mk (Kd.R_lower (Kd.R_new' (Kd.R_new' ho0 (Kd.R_lt (by (with_reducible repeat (first | apply Kd.R_alloc | apply Kd.R_drewN | apply Kd.R_drew)); exact HO125.out))) (Kd.R_lt (by (with_reducible repeat (first | apply Kd.R_alloc | apply Kd.R_drewN | apply Kd.R_drew)); exact HO129.out))) (below_size (by repeat (first | (with_reducible first | exact HB.out | apply below_alloc | apply pw_below_drewN | apply below_drew1 | refine below_set ?_ GE117.out) | exact HB.out)))); have n3_ := Aside0.mk (blk_below (g := gb117) (o := .cells #[.slice A0_0 l0_0.length c0_0, .slice A0_1 l0_1.length c0_1] 27 (0, 0)) (by (with_reducible repeat (first | refine blk_drewN ?_ _ | refine blk_drew ?_ | refine blk_alloc ?_ _)); exact BK117.out) hb); have n4_ := Aside0.mk (below_step (by repeat (first | (with_reducible first | exact HB.out | apply below_alloc | apply pw_below_drewN | apply below_drew1 | refine below_set ?_ GE117.out) | exact HB.out)) hb); clear HO125; clear HO129; clear BK117; clear HB; have HO125 := n0_; have HO129 := n1_; have HO132 := n2_; have BK117 := n3_; have HB := n4_; clear n0_ n1_ n2_ n3_ n4_; (try clear hb); (try clear hb2); (try clear hk); (try clear hi); (try clear ho0); obtain ⟨Ao33, co33, eo33⟩ := Kd.R_slice HO132.out; subst eo33) | ((with_reducible refine gate_builtin (b := .append) (xs := #[.tmp 37, .tmp 40]) rfl ?_); (try (refine gate_guard (by rfl) ?_; dsimp only)); at_builtin; refine Kd.R_append_rows (Kd.int .i64) (w0 := w) w.heap.size rfl (.tmp 37) (.tmp 40) 25 3 (.int .i64 0) 8 rfl Tryd.underlying25 info3 rfl (by decide) (by omega) (.slice (some ad122) y123.length co27) y123 t130 _ _ _ (fun k_ => some k_ ≠ (v128 : Value).ownBlock ∧ some k_ ≠ (.slice Ao33 t130.length co33 : Value).ownBlock) (fun _ => False) rfl rfl ?aO ?aR (fun _ _ h => h) (fun _ h => h.elim) ?aF ?aB ?aS ?aL ?_; (case aR => repeat (first | exact (Kd.R_reads' HO132.out).2.2 | (with_reducible refine Kd.C_alloc ?_ _) | (with_reducible refine Kd.C_drewN ?_ _) | (with_reducible refine Kd.C_drew ?_))); (case aB => exact (by repeat (first | (with_reducible first | exact HB.out | apply below_alloc | apply pw_below_drewN | apply below_drew1 | refine below_set ?_ GE117.out) | exact HB.out))); (case aF => exact (fun k_ hk => ⟨Kd.fresh' (Kd.R_lt (by (with_reducible repeat (first | apply Kd.R_alloc | apply Kd.R_drewN | apply Kd.R_drew)); exact HO129.out)) k_ hk, Kd.fresh' (Kd.R_lt (by (with_reducible repeat (first | apply Kd.R_alloc | apply Kd.R_drewN | apply Kd.R_drew)); exact HO132.out)) k_ hk⟩)); (case aO => exact (by (with_reducible repeat (first | apply Kd.R_alloc | apply Kd.R_drewN | apply Kd.R_drew)); exact Kd.R_mono HO125.out (fun _ hk => ⟨hk.1.2, hk.2⟩))); (case aS => exact (below_size (by repeat (first | (with_reducible first | exact HB.out | apply below_alloc | apply pw_below_drewN | apply below_drew1 | refine below_set ?_ GE117.out) | exact HB.out)))); (case aL => have := LMc26.out; omega); intro v134 w32 ho hb hg hat; rw [← Ny133.out] at ho; have n0_ := Aside0.mk (blk_grown (g := gb117) (o := .cells #[.slice A0_0 l0_0.length c0_0, .slice A0_1 l0_1.length c0_1] 27 (0, 0)) (by (with_reducible repeat (first | refine blk_drewN ?_ _ | refine blk_drew ?_ | refine blk_alloc ?_ _)); exact BK117.out) hg (Kd.R_ne HO125.out BK117.out (by decide))); have n1_ := Aside0.mk (Kd.R_after (ok := (fun k_ => some k_ ≠ (.slice Ao33 t130.length co33 : Value).ownBlock)) (by (with_reducible repeat (first | apply Kd.R_alloc | apply Kd.R_drewN | apply Kd.R_drew)); exact Kd.R_mono HO129.out (fun _ hk => ⟨hk.2, hk.1⟩)) hg hat); have n2_ := Aside0.mk (Kd.R_after (ok := (fun k_ => some k_ ≠ (v128 : Value).ownBlock)) (by (with_reducible repeat (first | apply Kd.R_alloc | apply Kd.R_drewN | apply Kd.R_drew)); exact Kd.R_mono HO132.out (fun _ hk => ⟨hk.2, hk.1.2⟩)) hg hat); have n3_ := Aside0.mk (hb); have n4_ := Aside0.mk (ho); clear BK117; clear HO129; clear HO132; clear HB; clear HO125; have BK117 := n0_; have HO129 := n1_; have HO132 := n2_; have HB := n3_; have HO135 := n4_; clear n0_ n1_ n2_ n3_ n4_; clear ho hb hg hat))
            go_roundg kj6
            case measure => have := HK1.out; have := HJ6.out; omega
            case rel => exact ⟨(y127), (y133), H', ⟨by have := HK1.out; have := HJ6.out; omega⟩, ⟨by (with_reducible repeat (first | apply Kd.R_alloc | apply Kd.R_drewN | apply Kd.R_drew)); exact Kd.R_mono HO129.out (fun _ hk => hk.2)⟩, ⟨by (with_reducible repeat (first | apply Kd.R_alloc | apply Kd.R_drewN | apply Kd.R_drew)); exact Kd.R_mono HO135.out (fun _ hk => hk.1)⟩, ⟨by (with_reducible repeat (first | refine blk_drewN ?_ _ | refine blk_drew ?_ | refine blk_alloc ?_ _)); exact BK117.out⟩, ⟨by repeat (first | (with_reducible first | exact HB.out | apply below_alloc | apply pw_below_drewN | apply below_drew1 | refine below_set ?_ GE117.out) | exact HB.out)⟩⟩
           ·rw [if_neg c26] at H
            exact absurd H (by simp)
          ·rw [if_neg c24] at H
           exact absurd H (by simp)
        ·rw [if_neg c17] at H
         exact absurd H (by simp)
       ·rw [if_neg c16] at H
        exact absurd H (by simp)
      ·rw [if_neg c15] at H
       exact absurd H (by simp)
     ·replace c13 := Bool.eq_false_iff.mpr c13
      subst c13
      have H1 : ((slices_Reverse_int_int.f kj6 x2_1).bind fun t136 => (some t136)) = some r := by rw [if_neg (show ¬ (false = true) by decide)] at H; exact H
      clear H
      have H := H1
      clear H1
      replace H := Option.bind_eq_some_iff.mp H
      obtain ⟨t136, A340, H⟩ := H
      replace H : (some t136) = some r := H
      have A34 := Aside0.mk A340
      clear A340
      obtain rfl := Option.some.inj H
      obtain ⟨Ao35, co35, eo35⟩ := Kd.R_slice HO_2.out
      subst eo35
      go_wp2_with (first | ((with_reducible refine gate_callee (f := 26) rfl ?_); refine goesL_ (some 43) rfl rfl Tryd.func26 (by kernel_rfl) rfl #[.slice Ao35 x2_1.length co35] rfl (by (try simp only [List.map_toArray, List.map_cons, List.map_nil]); first | done | rfl | (simp only [List.length_drop, List.length_take]; rfl)) ?_; (with_reducible refine (slices_Reverse_int_int.calls kj6 (fun k_ => some k_ = (.slice Ao35 x2_1.length co35 : Value).ownBlock) (.slice Ao35 x2_1.length co35) x2_1 t136 w _ ?side1 ?side2 A34.out).mono ?_); (case side1 => repeat (first | (with_reducible first | exact HB.out | apply below_alloc | apply pw_below_drewN | apply below_drew1 | refine below_set ?_ GE117.out) | exact HB.out)); (case side2 => exact Kd.R_tight rfl HO_2.out); rintro e w36 ⟨rfl, hy0, hb, hkp⟩; refine ⟨_, rfl, ?_⟩; have n0_ := Aside0.mk (Kd.R_reok rfl hy0 (fun k_ e_ => HO_2.out.1 k_ e_)); have n1_ := Aside0.mk (Kd.R_mono (ok' := fun k_ => some k_ ≠ (.slice Ao35 x2_1.length co35 : Value).ownBlock) (Kd.R_keptB (HO_3.out) hkp (fun k_ hk_ hs_ => (hk_) hs_)) (fun k_ hk_ => hk_.1)); have n2_ := Aside0.mk (blk_kept (by (with_reducible repeat (first | refine blk_drewN ?_ _ | refine blk_drew ?_ | refine blk_alloc ?_ _)); exact BK117.out) hkp (fun hs_ => (fun e_ => (Kd.R_ne HO_2.out BK117.out (by decide)) e_) hs_)); have n3_ := Aside0.mk (hb); clear HO_2; clear HO_3; clear BK117; clear HB; have HO_2 := n0_; have HO_3 := n1_; have BK117 := n2_; have HB := n3_; clear n0_ n1_ n2_ n3_; (try clear hb); (try clear hkp); (try clear hy0)))
      go_ret
      exact ⟨_, by first | rfl | (simp [errW_none, errW_some] <;> rfl) | (simp [*, errW_none, errW_some] <;> rfl), by (with_reducible repeat (first | apply Kd.R_alloc | apply Kd.R_drewN | apply Kd.R_drew)); exact Kd.R_mono HO_2.out (fun _ hk => trivial), by repeat (first | (with_reducible first | exact HB.out | apply below_alloc | apply pw_below_drewN | apply below_drew1 | refine below_set ?_ GE117.out) | exact HB.out)⟩

end Go.Proofs.YtgejnljpdfjgpaaDoor.Q
/- pass.edges: each bag but the root, and its parent, in an order, by whatever 'do' that turns one block alone. -/
namespace Go.Proofs.YtgejnljpdfjgpaaDoor.Q
open Go.RowKit Go.Proofs Go.Proofs.YtgejnljpdfjgpaaDoorW.PrintWords Go.Proofs.YtgejnljpdfjgpaaDoorW.PrintLast Go.Proofs.YtgejnljpdfjgpaaDoorW.PrintMore
set_option linter.unusedVariables false
set_option linter.unusedSimpArgs false

/-- The steps of an order: each with its parent. -/
def stepsOf (par : List Int) (L : List Int) : List (Int × Int) := (L.map fun i => (i, par.getD i.toNat 0)).filter fun s => decide (0 ≤ s.2)

theorem stepsOf_take (par L : List Int) (k : Nat) (i : Int) (h : L[k]? = some i) : stepsOf par (L.take (k + 1)) = stepsOf par (L.take k) ++ if 0 ≤ par.getD i.toNat 0 then [(i, par.getD i.toNat 0)] else [] := by
  obtain ⟨h1, h2⟩ := List.getElem?_eq_some_iff.1 h
  unfold stepsOf
  rw [List.take_succ_eq_append_getElem h1, List.map_append, List.filter_append, h2]
  congr 1
  by_cases hp : 0 ≤ par.getD i.toNat 0
  · simp [List.filter_cons, hp]
  · simp [List.filter_cons, hp]

set_option maxHeartbeats 1000000 in
set_option maxRecDepth 100000 in
theorem pass_edges.calls (kf kr : Nat) (A0 : Option Addr) (c0 : Nat) (bags : List (List Int)) (A1 : Option Addr) (c1 : Nat) (par : List Int) (down : Bool) (F : FuncId) (caps : Array Value) (L0 L : List Int) (g : Nat) (w : World)
    (hr0 : Kd.C (Kd.slice 3 (Kd.int .i64)) w A0 bags.length bags) (hc0 : bags.length ≤ c0) (hr1 : Kd.C (Kd.int .i64) w A1 par.length par) (hc1 : par.length ≤ c1)
    (hL0 : place_After.f kf bags par = some L0) (hL : if down then slices_Reverse_int_int.f kr L0 = some L else L = L0) (hLi : ∀ i ∈ L, 0 ≤ i ∧ i < par.length) (hg : g < w.heap.size)
    (hpar : ∀ W, w.grownBy W (some g) → Kd.C (Kd.int .i64) W A1 par.length par)
    (hcf : ∀ (args : Array Value) (W : World), (callFunc F args).run Tryd.prog W = .ok (.enter F args) W)
    (Inv : List (Int × Int) → World → Prop) (h0 : Inv [] w) (hst : ∀ ps W W', Inv ps W → Below W.heap.size W W' → Inv ps W')
    (hdo : ∀ ps W i p, Inv ps W → w.grownBy W (some g) → ps <+: stepsOf par L → (i, p) ∈ stepsOf par L → Calls Tryd.prog F (#[.int .i64 i, .int .i64 p] ++ caps) W fun e W' => e = .returned (.tuple #[]) ∧ Inv (ps ++ [(i, p)]) W' ∧ W.grownBy W' (some g)) :
    Calls Tryd.prog 14 #[.agg #[.slice A0 bags.length c0, .slice A1 par.length c1], .bool down, .func (.func F) #[] caps] w fun e w' => e = .returned (.tuple #[]) ∧ Inv (stepsOf par L) w' ∧ w.grownBy w' (some g) := by
  have HR0 := Aside0.mk hr0
  have HC0 := Aside0.mk hc0
  have HR1 := Aside0.mk hr1
  have HC1 := Aside0.mk hc1
  have HL0 := Aside0.mk hL0
  have HL := Aside0.mk hL
  have HLI := Aside0.mk hLi
  have HG := Aside0.mk hg
  have HPAR := Aside0.mk hpar
  have HI0 := Aside0.mk h0
  have HST := Aside0.mk hst
  have HDO := Aside0.mk hdo
  clear hr0 hc0 hr1 hc1 hL0 hL hLi hg hpar h0 hst hdo
  go_enter Tryd.func14, Tryd.ntmps14
  go_wp2_with fail
  have hb0 : Below w.heap.size w (w.alloc (.cells #[.slice A0 bags.length c0, .slice A1 par.length c1] 27)) := (Below.refl _ _).alloc (Nat.le_refl _) _
  have hbx0 := heap_alloc_new w (.cells #[.slice A0 bags.length c0, .slice A1 par.length c1] 27)
  refine (place_After.calls kf A0 c0 bags A1 c1 par L0 _ (Kd.C_below HR0.out hb0) HC0.out (Kd.C_below HR1.out hb0) HC1.out HL0.out).mono ?_
  rintro e w1 ⟨v1, rfl, hv1, hb1⟩
  have hbx := blk_below hbx0 hb1
  have HBX := Aside0.mk hbx
  have HB1 := Aside0.mk (below_step hb0 hb1)
  have HV1 := Aside0.mk (OwnEl.of_R (Kd.R_lower hv1 hb0.size))
  have hne : ¬ (some w.heap.size = v1.ownBlock) := fun e => HV1.out.ne hbx (by decide) e.symm
  have HNE := Aside0.mk hne
  clear hbx0 hne hb0 hb1 hv1 hbx
  obtain ⟨Av, cv, ev, hvl, hvC⟩ := HV1.out.reads
  have ev : v1 = .slice Av L0.length cv := ev
  subst ev
  clear hvl hvC
  go_upto_if 12 with fail
  go_cut [6] (fun v6 wx => v6 = .slice Av L0.length cv ∧ Aside0 (OwnEl wx w.heap.size (v6, L)) ∧ Aside0 (Below w.heap.size w wx) ∧ Aside0 (wx.heap[w.heap.size]? = some (.cells #[.slice A0 bags.length c0, .slice A1 par.length c1] 27 (0, 0))))
  case first =>
    cases down with
    | false =>
      go_wp2
      go_meet
      refine ⟨rfl, ?_, HB1, HBX⟩
      have := HL.out
      simp at this
      rw [this]
      exact HV1
    | true =>
      go_wp2_with fail
      refine (slices_Reverse_int_int.calls kr _ _ L0 L w _ HB1.out HV1.out (by have := HL.out; simpa using this)).mono ?_
      rintro e w2 ⟨rfl, h1, h2, h3⟩
      go_wp2
      go_meet
      exact ⟨rfl, aside0 (OwnEl.of_R h1), aside0 h2, aside0 (blk_kept HBX.out h3 HNE.out)⟩
  case rest =>
    obtain ⟨rfl, HVL, HBW, HBXC⟩ := hcut
    have hmax : L0.length ≤ 9223372036854775807 := by
      obtain ⟨A', c', e, hl, hC⟩ := HV1.out.reads
      exact Kd.C_max hC
    have HLEN := Aside0.mk (show L0.length = L.length by
      obtain ⟨A', c', e, hl, hC⟩ := HVL.out.reads
      injection e with _ e _)
    have HI1 := Aside0.mk (HST.out _ _ _ HI0.out HBW.out)
    have HG1 := Aside0.mk (show w.grownBy wc (some g) from grown_of_below HBW.out _)
    go_wp2
    go_loopw [17] (fun i wr => ∃ k : Nat, k ≤ L0.length ∧ i = .int .i64 k ∧ Aside0 (Inv (stepsOf par (L.take k)) wr) ∧ Aside0 (wc.grownBy wr (some g))) (fun i _ => L0.length - (intOf i).toNat)
    case atStart => exact ⟨0, Nat.zero_le _, rfl, aside0 (by simpa [stepsOf] using HI1.out), aside0 (World.grownBy.refl _ _)⟩
    case round =>
      obtain ⟨k, hk, rfl, HI, HGR⟩ := hrel
      have HGW := Aside0.mk (HG1.out.trans HGR.out)
      have HVR : Aside0 (OwnEl wr w.heap.size (.slice Av L0.length cv, L)) := ⟨Kd.R_grown HVL.out HGR.out (fun q hq e => by
        obtain ⟨inn, ho⟩ := Kd.R_own HVL.out
        have h1 := own_base ho q hq.symm
        have h2 := HG.out
        injection e with e
        omega)⟩
      by_cases hlt : k < L0.length
      · have hd : decide ((k : Int) < (L0.length : Int)) = true := decide_eq_true (by omega)
        have hd2 : decide (k < L0.length) = true := decide_eq_true hlt
        obtain ⟨A', c', e, hl, hC⟩ := HVR.out.reads
        injection e with e1 e2 e3
        subst e1 e3
        have hx : ∃ ad, Av = some ad ∧ wr.cell? (ad.add k) = some (.int .i64 (L.getD k 0)) := by
          obtain ⟨ad, c, e, _, hK, hc0⟩ := Kd.C_get hC (0 : Int) (k : Int) (by omega) (by omega)
          rw [Int.toNat_natCast] at hK hc0
          have hK : c = [.int .i64 (L.getD k 0)] := hK
          subst hK
          refine ⟨ad, e, ?_⟩
          have := hc0 0 _ rfl
          simpa [Kd.int, Kd.scalar] using this
        clear hC hl e2
        obtain ⟨ad, e, hx⟩ := hx
        subst e
        have hLk : L[k]? = some (L.getD k 0) := by rw [List.getD_eq_getElem?_getD, List.getElem?_eq_getElem (by have := HLEN.out; omega)]; rfl
        have HST1 := Aside0.mk (stepsOf_take par L k _ hLk)
        have HLI1 := Aside0.mk (HLI.out _ (List.mem_of_getElem? hLk))
        have HLK := Aside0.mk hLk
        clear hLk
        generalize L.getD k 0 = i at hx HST1 HLI1 HLK
        obtain ⟨i, rfl⟩ := Int.eq_ofNat_of_zero_le HLI1.out.1
        have hi2 : (i : Int) < (par.length : Int) := HLI1.out.2
        have hi3 : i < par.length := by omega
        have hbr : wr.heap[w.heap.size]? = some (.cells #[.slice A0 bags.length c0, .slice A1 par.length c1] 27 (0, 0)) := blk_grown HBXC.out HGR.out (fun e => by have := HG.out; injection e; omega)
        have hb1 := (blk_cell hbr 1).trans rfl
        have hp : ∃ ad1, A1 = some ad1 ∧ wr.cell? (ad1.add i) = some (.int .i64 (par.getD i 0)) := by
          obtain ⟨ad, c, e, _, hK, hc0⟩ := Kd.C_get (HPAR.out _ HGW.out) (0 : Int) (i : Int) (by omega) hi2
          rw [Int.toNat_natCast] at hK hc0
          have hK : c = [.int .i64 (par.getD i 0)] := hK
          subst hK
          refine ⟨ad, e, ?_⟩
          have := hc0 0 _ rfl
          simpa [Kd.int, Kd.scalar] using this
        clear hbr
        obtain ⟨ad1, e, hp⟩ := hp
        subst e
        rw [Int.toNat_natCast] at HST1
        have HMEM := Aside0.mk (show 0 ≤ par.getD i 0 → ((i : Int), par.getD i 0) ∈ stepsOf par L from fun h0 => by
          unfold stepsOf
          refine List.mem_filter.2 ⟨List.mem_map.2 ⟨(i : Int), List.mem_of_getElem? HLK.out, by simp⟩, by simpa using h0⟩)
        generalize par.getD i 0 = p at hp HST1 HMEM
        have HPRE := Aside0.mk (show stepsOf par (L.take k) <+: stepsOf par L from by
          unfold stepsOf
          exact ((List.take_prefix k L).map _).filter _)
        by_cases h0 : 0 ≤ p
        · have hd3 : decide ((0 : Int) ≤ p) = true := decide_eq_true h0
          have HP := Aside0.mk (HMEM.out h0)
          have HST2 := Aside0.mk (by have := HST1.out; rw [if_pos h0] at this; exact this)
          clear h0
          go_wp2_with fail
          refine (HDO.out _ wr _ _ HI.out HGW.out HPRE.out HP.out).mono ?_
          rintro e w3 ⟨rfl, hI3, hg3⟩
          have HI3 := Aside0.mk hI3
          have HG3 := Aside0.mk hg3
          clear hI3 hg3
          go_wp2
          go_roundw
          case rel => exact ⟨k + 1, by omega, by go_num, aside0 (by rw [HST2.out]; exact HI3.out), aside0 (HGR.out.trans HG3.out)⟩
          case measure => simp [intOf]; omega
        · have hd3 : decide ((0 : Int) ≤ p) = false := decide_eq_false h0
          have HST2 := Aside0.mk (by have := HST1.out; rw [if_neg h0, List.append_nil] at this; exact this)
          clear h0
          go_wp2
          go_roundw
          case rel => exact ⟨k + 1, by omega, by go_num, aside0 (by rw [HST2.out]; exact HI.out), HGR⟩
          case measure => simp [intOf]; omega
      · have hke : k = L0.length := by omega
        subst hke
        have hd2 : decide (L0.length < L0.length) = false := decide_eq_false (by omega)
        go_wp2
        go_end0
        refine ⟨rfl, ?_, HGW.out⟩
        have := HI.out
        rwa [HLEN.out, List.take_length] at this

end Go.Proofs.YtgejnljpdfjgpaaDoor.Q
