/- A part of the proof of this claim (part 3 of 16): contracts of callees and plain facts, each with its own conditions before its statement. -/
import Derived.WalkSpells
import Derived.Test.YtgejnljpdfjgpaaDoorGK1
import Derived.Test.YtgejnljpdfjgpaaDoorGK2
set_option linter.unusedVariables false
set_option linter.unusedSimpArgs false
namespace Go.Proofs.YtgejnljpdfjgpaaDoor.Q
open Go.RowKit Go.Proofs.YtgejnljpdfjgpaaDoorW.PrintWords Go.Proofs.YtgejnljpdfjgpaaDoorW.PrintLast Go.Proofs.YtgejnljpdfjgpaaDoorW.PrintMore
attribute [local go_sem] max2_int min2_int max_two min_two max_three min_three max_four min_four   -- for this text's walks alone
set_option linter.unusedVariables false
set_option linter.unusedSimpArgs false

/-! ### join_places: function 31 -/
def join_places.l0 : Nat → List Int → List Int → List Int → Int → Int → Option (List Int)
 | 0, _, _, _, _, _ => none
 | k + 1, x0, x5, x11, x12, x13 => if x13 < x12 then (if 0 ≤ x13 then (if x13 < (x11.length : Int) then ((slices_Index_int_int.f k x0 (rd x11 x13)).bind fun t106 => (if x13 < (x5.length : Int) then (join_places.l0 k x0 (x5.set (x13 : Int).toNat t106) x11 x12 (wrap64 (x13 + 1))) else (none))) else (none)) else (none)) else (some x5)
def join_places.f (k : Nat) (l0 : List Int) (l1 : List Int) : Option (List Int) := if 0 ≤ (l1.length : Int) then (if ((l1.length : Int) : Int).toNat ≤ 35184372088832 then (join_places.l0 k l0 (List.replicate ((l1.length : Int) : Int).toNat 0) l1 (l1.length : Int) 0) else (none)) else (none)
theorem join_places.mono_l : ∀ k, (∀ y0 y1 y2 y3 y4, LeO (join_places.l0 k y0 y1 y2 y3 y4) (join_places.l0 (k + 1) y0 y1 y2 y3 y4))
 | 0 => fun _ _ _ _ _ r h => by simp [join_places.l0] at h
 | k + 1 => by
  have ih0 := join_places.mono_l k
  ·intro y0 y1 y2 y3 y4
   unfold join_places.l0
   repeat' first
   | (with_reducible exact ih0 _ _ _ _ _)
   | (with_reducible exact slices_Index_int_int.mono _ _ _)
   | (with_reducible exact LeO.refl _)
   | (with_reducible exact LeO.none _)
   | (with_reducible refine LeO.ite ?_ ?_)
   | (with_reducible refine LeO.bind ?_ (fun _ => ?_))
   | exact ih0 _ _ _ _ _
   | exact slices_Index_int_int.mono _ _ _
   | exact LeO.none _
   | refine LeO.ite ?_ ?_
   | refine LeO.bind ?_ (fun _ => ?_)
theorem join_places.mono : ∀ a0 a1 k, LeO (join_places.f k a0 a1) (join_places.f (k + 1) a0 a1) := by
 intro a0 a1 k
 have ih0 := join_places.mono_l k
 unfold join_places.f
 repeat' first
   | (with_reducible exact ih0 _ _ _ _ _)
   | (with_reducible exact slices_Index_int_int.mono _ _ _)
   | (with_reducible exact LeO.refl _)
   | (with_reducible exact LeO.none _)
   | (with_reducible refine LeO.ite ?_ ?_)
   | (with_reducible refine LeO.bind ?_ (fun _ => ?_))
   | exact ih0 _ _ _ _ _
   | exact slices_Index_int_int.mono _ _ _
   | exact LeO.none _
   | refine LeO.ite ?_ ?_
   | refine LeO.bind ?_ (fun _ => ?_)
set_option maxHeartbeats 8000000 in
set_option maxRecDepth 100000 in
theorem join_places.calls (k : Nat) (A0 : Option Addr) (c0 : Nat) (l0 : List Int) (A1 : Option Addr) (c1 : Nat) (l1 : List Int) (r : List Int) (w : World) (hr0 : Kd.C (Kd.int .i64) w A0 l0.length l0) (hc0 : l0.length ≤ c0) (hr1 : Kd.C (Kd.int .i64) w A1 l1.length l1) (hc1 : l1.length ≤ c1) (h : join_places.f k l0 l1 = some r) :
  Calls Tryd.prog 31 #[.slice A0 l0.length c0, .slice A1 l1.length c1] w fun e w' => ∃ v0_ : Value, e = .returned (v0_) ∧ Kd.R (Kd.int .i64) 3 w' w.heap.size (fun _ => True) v0_ r ∧ Below w.heap.size w w' := by
 have HR0 := Aside0.mk hr0
 have HC0 := Aside0.mk hc0
 clear hr0 hc0
 have HR1 := Aside0.mk hr1
 have HC1 := Aside0.mk hc1
 clear hr1 hc1
 have HB := Aside0.mk (Below.refl w.heap.size w)
 have H : (if 0 ≤ (l1.length : Int) then (if ((l1.length : Int) : Int).toNat ≤ 35184372088832 then (join_places.l0 k l0 (List.replicate ((l1.length : Int) : Int).toNat 0) l1 (l1.length : Int) 0) else (none)) else (none)) = some r := h
 clear h
 by_cases c3 : 0 ≤ (l1.length : Int)
 ·rw [if_pos c3] at H
  have c3b0 := eq_true c3
  have c3b1 : decide (0 ≤ (l1.length : Int)) = true := decide_eq_true c3
  clear c3
  by_cases c4 : ((l1.length : Int) : Int).toNat ≤ 35184372088832
  ·rw [if_pos c4] at H
   have c4b0 := eq_true c4
   have c4b1 : decide (((l1.length : Int) : Int).toNat ≤ 35184372088832) = true := decide_eq_true c4
   clear c4
   obtain ⟨y102, hy102⟩ : ∃ y_ : List Int, y_ = (List.replicate ((l1.length : Int) : Int).toNat 0) := ⟨_, rfl⟩
   replace H : (join_places.l0 k l0 y102 l1 (l1.length : Int) 0) = some r := by first | (rw [hy102]; with_reducible exact H) | (have H2_ := (Option.bind_some _ _).symm.trans H; rw [hy102]; with_reducible exact H2_) | (have H2_ := (Option.bind_some _ _).symm.trans H; with_reducible exact H2_) | with_reducible exact H | (rw [hy102]; exact H) | exact H
   have Ny102 := Aside0.mk hy102
   clear hy102
   have H' := Aside0.mk H
   clear H
   go_enter Tryd.func31, Tryd.ntmps31
   go_wp2_with (first | ((with_reducible refine gate_dst (N := 10) rfl ?_); refine Kd.R_make (Kd.int .i64) _ 3 rfl (N := 10) rfl 25 _ _ rfl (l1.length : Int) rfl rfl Tryd.underlying25 (.int .i64 0) 8 info3 rfl (by decide) (by omega) 0 (ok := fun _ => True) (okp := fun _ => True) rfl (fun _ hk => hk) trivial (of_decide_eq_true (by first | (with_reducible assumption) | assumption)) (Nat.le_trans (Nat.mul_le_mul_right _ (of_decide_eq_true (by first | (with_reducible assumption) | assumption) : (l1.length : Int).toNat ≤ 35184372088832)) (by omega)) (Below.refl _ _) (Nat.le_refl _) ?_; intro v103 w5 ho6 hb hg_ hnew_; clear hg_ hnew_; (first | rw [← Ny102.out] at ho6 | (simp only [Int.reduceToNat] at ho6; rw [← Ny102.out] at ho6)); have n0_ := Aside0.mk (Kd.R_lower ho6 (below_size (by repeat (first | (with_reducible first | exact HB.out | apply below_alloc | apply pw_below_drewN | apply below_drew1) | exact HB.out)))); have n1_ := Aside0.mk (below_step (by repeat (first | (with_reducible first | exact HB.out | apply below_alloc | apply pw_below_drewN | apply below_drew1) | exact HB.out)) hb); clear HB; have HO104 := n0_; have HB := n1_; clear n0_ n1_; clear hb ho6))
   go_loopg [13] k (fun kq v13 w' => ∃ (x5_1 : List Int) (x13_1 : Int), v13 = .int .i64 x13_1 ∧ Aside0 (join_places.l0 kq l0 x5_1 l1 (l1.length : Int) x13_1 = some r) ∧ Aside0 (kq ≤ k) ∧ Aside0 (Kd.R (Kd.int .i64) 3 w' w.heap.size (fun _ => True) v103 x5_1) ∧ Aside0 (Below w.heap.size w w'))
   case atStart => exact ⟨(y102), (0), (by first | rfl | (simp; done) | (simp [*]; done)), H', ⟨Nat.le_refl _⟩, ⟨by (with_reducible repeat (first | apply Kd.R_alloc | apply Kd.R_drewN | apply Kd.R_drew)); exact HO104.out⟩, ⟨by repeat (first | (with_reducible first | exact HB.out | apply below_alloc | apply pw_below_drewN | apply below_drew1) | exact HB.out)⟩⟩
   case round =>
    clear H'
    try clear c1
    try clear p2
    try clear c3
    try clear c3b0
    try clear c3b1
    try clear c4
    try clear c4b0
    try clear c4b1
    obtain ⟨x5_1, x13_1, rfl, HA, HK1, HO_5, HB⟩ := hrel
    cases gk with
    | zero => exact absurd HA.out (by simp [join_places.l0])
    | succ k1 =>
     have H := HA.out
     clear HA
     simp only [join_places.l0] at H
     by_cases c7 : x13_1 < (l1.length : Int)
     ·rw [if_pos c7] at H
      have c7b0 : decide (x13_1 < (l1.length : Int)) = true := decide_eq_true c7
      clear c7
      by_cases c8 : 0 ≤ x13_1
      ·rw [if_pos c8] at H
       have c8b0 : decide (0 ≤ x13_1) = true := decide_eq_true c8
       clear c8
       by_cases c9 : x13_1 < (l1.length : Int)
       ·rw [if_pos c9] at H
        have c9b0 : decide (x13_1 < (l1.length : Int)) = true := decide_eq_true c9
        clear c9
        replace H := Option.bind_eq_some_iff.mp H
        obtain ⟨t106, A100, H⟩ := H
        replace H : (if x13_1 < (x5_1.length : Int) then (join_places.l0 k1 l0 (x5_1.set (x13_1 : Int).toNat t106) l1 (l1.length : Int) (wrap64 (x13_1 + 1))) else (none)) = some r := H
        have A10 := Aside0.mk A100
        clear A100
        by_cases c11 : x13_1 < (x5_1.length : Int)
        ·rw [if_pos c11] at H
         have c11b0 : decide (x13_1 < (x5_1.length : Int)) = true := decide_eq_true c11
         clear c11
         obtain ⟨y107, hy107⟩ : ∃ y_ : List Int, y_ = (x5_1.set (x13_1 : Int).toNat t106) := ⟨_, rfl⟩
         replace H : (join_places.l0 k1 l0 y107 l1 (l1.length : Int) (wrap64 (x13_1 + 1))) = some r := by first | (rw [hy107]; with_reducible exact H) | (have H2_ := (Option.bind_some _ _).symm.trans H; rw [hy107]; with_reducible exact H2_) | (have H2_ := (Option.bind_some _ _).symm.trans H; with_reducible exact H2_) | with_reducible exact H | (rw [hy107]; exact H) | exact H
         have Ny107 := Aside0.mk hy107
         clear hy107
         have H' := Aside0.mk H
         clear H
         have p105 : 0 ≤ (x13_1 : Int) := of_decide_eq_true (by first | (with_reducible assumption) | assumption)
         have q105 : x13_1 < (l1.length : Int) := of_decide_eq_true (by first | (with_reducible assumption) | assumption)
         obtain ⟨ad105, e105, hx105_0⟩ := Kd.at_int HR1.out x13_1 p105 q105
         cases e105
         replace hx105_0 := (HB.out.cell (World.block_lt_of_cell? w _ hx105_0)).trans hx105_0
         replace p105 := eq_true p105
         replace q105 := eq_true q105
         go_wp2_with (first | ((with_reducible refine gate_callee (f := 36) rfl ?_); refine goesL_ (some 22) rfl rfl Tryd.func36 (by kernel_rfl) rfl #[.slice A0 l0.length c0, .int .i64 (rd l1 x13_1)] rfl (by (try simp only [List.map_toArray, List.map_cons, List.map_nil]); first | done | rfl | (simp only [List.length_drop, List.length_take]; rfl)) ?_; (with_reducible refine (slices_Index_int_int.calls k1 _ _ l0 (rd l1 x13_1) t106 _ ?side1 ?side2 A10.out).mono ?_); (case side1 => repeat (first | exact (Kd.C_below HR0.out HB.out) | (with_reducible refine Kd.C_alloc ?_ _) | (with_reducible refine Kd.C_drewN ?_ _) | (with_reducible refine Kd.C_drew ?_))); (case side2 => exact HC0.out); rintro e w' ⟨rfl, ⟨nd, rfl⟩⟩; refine ⟨_, rfl, ?_⟩; (try (rw [drewN_self wr]; generalize hq_ : World.drewN wr _ = wr; have n0_ : Aside0 (Kd.R (Kd.int .i64) 3 wr w.heap.size (fun _ => True) v103 x5_1) := ⟨by rw [← hq_]; exact (by (with_reducible repeat (first | apply Kd.R_alloc | apply Kd.R_drewN | apply Kd.R_drew)); exact HO_5.out)⟩; have n1_ : Aside0 (Below w.heap.size w wr) := ⟨by rw [← hq_]; exact (by repeat (first | (with_reducible first | exact HB.out | apply below_alloc | apply pw_below_drewN | apply below_drew1) | exact HB.out))⟩; clear HO_5 HB hq_; have HO_5 := n0_; have HB := n1_; clear n0_ n1_)); have p12 : 0 ≤ (x13_1 : Int) := of_decide_eq_true (by first | (with_reducible assumption) | assumption); have q12 : (x13_1 : Int) < ((x5_1.length : Int) : Int) := of_decide_eq_true (by first | (with_reducible assumption) | assumption); obtain ⟨go12, co12, eo12, gb12, gl12, cl12, HG12⟩ := Kd.R_form HO_5.out (by omega); (first | cases eo12 | (injection eo12 with ea_ en_ ec_; (first | subst ea_ | (injection ea_ with ea_; subst ea_)); subst ec_; clear en_)); have GB12 := Aside0.mk gb12; have GG12 := Aside0.mk HG12; clear gb12 gl12 HG12; obtain ⟨hx12_0, hf12_0⟩ := Kd.R_celln 0 HO_5.out (x13_1 : Int) p12 q12; replace p12 := eq_true p12; replace q12 := eq_true q12; obtain ⟨hy13_, hz13_⟩ := Kd.R_celln 0 HO_5.out (x13_1 : Int) (of_decide_eq_true (by first | (with_reducible assumption) | assumption)) (of_decide_eq_true (by first | (with_reducible assumption) | assumption)); have HP13 := Kd.R_putg HO_5.out (x13_1 : Int) t106) | ((with_reducible refine gate_store (t := 3) (p := 23) rfl ?_); refine store_event (t := 3) (p := 23) (v := ?vo_w14) (w1 := (wr.setCell ⟨go12, (x13_1 : Int).toNat, none⟩ (.int .i64 t106))) ?hg ?ho ?hn ?hr ?_; (case ho => rfl); (case hg => rfl); (case hn => rfl); (case hr => first | (go_simp; done) | (go_simp; rfl)); intro w14 hw; have hg : wr.grownBy w14 (some go12) := (by rw [hw]; exact HP13.2); have hp_ : Kd.R (Kd.int .i64) 3 w14 w.heap.size (fun _ => True) (.slice (some ⟨go12, 0, none⟩) x5_1.length co12) y107 := (by rw [hw, Ny107.out]; exact HP13.1); clear HP13; have n0_ := Aside0.mk (hp_); have n1_ := Aside0.mk ((by rw [hw]; exact below_set (HB.out) GB12.out : Below w.heap.size w w14)); clear HO_5; clear HB; have HO_5 := n0_; have HB := n1_; clear n0_ n1_; clear hg hw hp_))
         go_roundg k1
         case measure => have := HK1.out; omega
         case rel => exact ⟨(y107), (wrap64 (x13_1 + 1)), (by first | rfl | (simp; done) | (simp [*]; done)), H', ⟨by have := HK1.out; omega⟩, ⟨by (with_reducible repeat (first | apply Kd.R_alloc | apply Kd.R_drewN | apply Kd.R_drew)); exact HO_5.out⟩, ⟨by repeat (first | (with_reducible first | exact HB.out | apply below_alloc | apply pw_below_drewN | apply below_drew1) | exact HB.out)⟩⟩
        ·rw [if_neg c11] at H
         exact absurd H (by simp)
       ·rw [if_neg c9] at H
        exact absurd H (by simp)
      ·rw [if_neg c8] at H
       exact absurd H (by simp)
     ·rw [if_neg c7] at H
      have c7b0 : decide (x13_1 < (l1.length : Int)) = false := decide_eq_false c7
      clear c7
      obtain rfl := Option.some.inj H
      go_wp2
      go_ret
      exact ⟨_, by first | rfl | (simp [errW_none, errW_some] <;> rfl) | (simp [*, errW_none, errW_some] <;> rfl), by (with_reducible repeat (first | apply Kd.R_alloc | apply Kd.R_drewN | apply Kd.R_drew)); exact HO_5.out, by repeat (first | (with_reducible first | exact HB.out | apply below_alloc | apply pw_below_drewN | apply below_drew1) | exact HB.out)⟩
  ·rw [if_neg c4] at H
   exact absurd H (by simp)
 ·rw [if_neg c3] at H
  exact absurd H (by simp)

end Go.Proofs.YtgejnljpdfjgpaaDoor.Q
/- What join.places answers: where each variable stands in a scheme; -1: nowhere. -/
namespace Go.Proofs.YtgejnljpdfjgpaaDoor.Q
open Go.RowKit Go.Proofs.YtgejnljpdfjgpaaDoorW.PrintWords Go.Proofs.YtgejnljpdfjgpaaDoorW.PrintLast Go.Proofs.YtgejnljpdfjgpaaDoorW.PrintMore
set_option linter.unusedVariables false
set_option linter.unusedSimpArgs false

/-- Where a number stands; -1: nowhere. -/
def placeOf (s : List Int) (v : Int) : Int := if v ∈ s then (s.idxOf v : Int) else -1
def placesL (s vs : List Int) : List Int := vs.map (placeOf s)

theorem placeOf_lt {s : List Int} {v : Int} : placeOf s v < s.length := by
  unfold placeOf
  split
  · rename_i h
    have := List.idxOf_lt_length_of_mem h
    omega
  · omega

theorem slices_Index_l0 (s : List Int) (v : Int) (hb : s.length ≤ 9223372036854775807) (d : Nat) : ∀ (k i : Nat), s.length - i = d → i ≤ s.length → d < k →
    slices_Index_int_int.l0 k s v (s.length : Int) (i : Int) = some (if v ∈ s.drop i then ((i + (s.drop i).idxOf v : Nat) : Int) else -1) := by
  induction d with
  | zero =>
    intro k i h1 h2 hk
    obtain ⟨k, rfl⟩ : ∃ m, k = m + 1 := ⟨k - 1, by omega⟩
    simp only [slices_Index_int_int.l0]
    have e : s.drop i = [] := List.drop_eq_nil_of_le (by omega)
    rw [if_neg (by omega), e, if_neg (by simp)]
  | succ d ih =>
    intro k i h1 h2 hk
    obtain ⟨k, rfl⟩ : ∃ m, k = m + 1 := ⟨k - 1, by omega⟩
    simp only [slices_Index_int_int.l0]
    rw [if_pos (by omega), if_pos (by omega), if_pos (by omega), drop_rd s i (by omega)]
    by_cases c : v = rd s (i : Int)
    · rw [if_pos c, if_pos (by rw [c]; exact List.mem_cons_self ..), c, List.idxOf_cons_self]
      rfl
    · rw [if_neg c, wrap_nat i (by omega), ih k (i + 1) (by omega) (by omega) (by omega)]
      congr 1
      by_cases hm : v ∈ s.drop (i + 1)
      · rw [if_pos hm, if_pos (List.mem_cons_of_mem _ hm), List.idxOf_cons, show (rd s (i : Int) == v) = false from by simpa using Ne.symm c]
        simp only [cond_false]
        omega
      · rw [if_neg hm, if_neg (fun h => by rcases List.mem_cons.1 h with h | h; exact c h; exact hm h)]

theorem slices_Index_eq (s : List Int) (v : Int) (hb : s.length ≤ 9223372036854775807) (k : Nat) (hk : s.length < k) : slices_Index_int_int.f k s v = some (placeOf s v) := by
  unfold slices_Index_int_int.f
  have h := slices_Index_l0 s v hb s.length k 0 (by omega) (by omega) hk
  rw [show ((0 : Nat) : Int) = 0 from rfl] at h
  rw [h]
  simp [placeOf]

theorem join_places_l0 (s vs : List Int) (hb : s.length ≤ 9223372036854775807) (hv : vs.length ≤ 35184372088832) (d : Nat) : ∀ (k i : Nat) (acc : List Int), vs.length - i = d → i ≤ vs.length → d + s.length + 1 < k → acc.length = vs.length → acc.take i = (vs.take i).map (placeOf s) →
    join_places.l0 k s acc vs (vs.length : Int) (i : Int) = some (vs.map (placeOf s)) := by
  induction d with
  | zero =>
    intro k i acc h1 h2 hk hl ha
    obtain ⟨k, rfl⟩ : ∃ m, k = m + 1 := ⟨k - 1, by omega⟩
    simp only [join_places.l0]
    rw [if_neg (by omega)]
    rw [List.take_of_length_le (by omega), List.take_of_length_le (by omega)] at ha
    rw [ha]
  | succ d ih =>
    intro k i acc h1 h2 hk hl ha
    obtain ⟨k, rfl⟩ : ∃ m, k = m + 1 := ⟨k - 1, by omega⟩
    simp only [join_places.l0]
    rw [if_pos (by omega), if_pos (by omega), if_pos (by omega), slices_Index_eq s _ hb k (by omega)]
    simp only [Option.bind_some]
    rw [if_pos (by omega), wrap_nat i (by omega)]
    refine ih k (i + 1) _ (by omega) (by omega) (by omega) (by simpa using hl) ?_
    rw [take_rd' vs i (by omega), List.map_append, ← ha, Int.toNat_natCast, List.take_succ_eq_append_getElem (by simp; omega), List.take_set, List.set_eq_of_length_le (by simp; omega)]
    simp

theorem join_places_eq (s vs : List Int) (hb : s.length ≤ 9223372036854775807) (hv : vs.length ≤ 35184372088832) : join_places.f (vs.length + s.length + 2) s vs = some (placesL s vs) := by
  unfold join_places.f
  rw [if_pos (by omega), Int.toNat_natCast, if_pos hv]
  have h := join_places_l0 s vs hb hv vs.length (vs.length + s.length + 2) 0 (List.replicate vs.length 0) (by omega) (by omega) (by omega) (by simp) (by simp)
  rw [show ((0 : Nat) : Int) = 0 from rfl] at h
  exact h

end Go.Proofs.YtgejnljpdfjgpaaDoor.Q
/- join.index: the rows of a relation by the texts of what they have of some variables. Its conditions: the relation and the variables are read at the call; sizes; the rows' numbers are int64's; strconv's table reads as it was laid. -/
namespace Go.Proofs.YtgejnljpdfjgpaaDoor.Q
open Go.RowKit Go.Proofs Go.Proofs.YtgejnljpdfjgpaaDoorW.PrintWords Go.Proofs.YtgejnljpdfjgpaaDoorW.PrintLast Go.Proofs.YtgejnljpdfjgpaaDoorW.PrintMore
set_option linter.unusedVariables false
set_option linter.unusedSimpArgs false

theorem mem_pickL {t ps : List Int} {n : Int} (h : n ∈ pickL t ps) : n ∈ t := by
  induction ps with
  | nil => simp [pickL] at h
  | cons p ps ih =>
    simp only [pickL] at h
    rcases List.mem_append.1 h with h | h
    · split at h
      · rename_i hp
        rw [List.mem_singleton.1 h]
        obtain ⟨q, rfl⟩ := Int.eq_ofNat_of_zero_le hp.1
        rw [rd_nat t q (by omega)]
        exact List.getElem_mem (by omega)
      · cases h
    · exact ih h

/-- The values that a row of rows holds. -/
def RowVals (w : World) (A : Option Addr) (rows : List (List Int)) (vs : List Value) : Prop :=
  vs.length = rows.length ∧ ∀ j, j < rows.length → ∃ ad A' c', A = some ad ∧ w.cell? (ad.add j) = some (.slice A' (rows.getD j []).length c') ∧ vs[j]? = some (.slice A' (rows.getD j []).length c') ∧ (rows.getD j []).length ≤ c' ∧ (Kd.int .i64).C w A' (rows.getD j []).length (rows.getD j [])
theorem rowVals {w : World} {A : Option Addr} {rows : List (List Int)} (h : Kd.C (Kd.slice 3 (Kd.int .i64)) w A rows.length rows) : ∃ vs, RowVals w A rows vs := by
  have hex : ∀ j : Nat, ∃ v : Value, j < rows.length → ∃ ad A' c', A = some ad ∧ w.cell? (ad.add j) = some v ∧ v = .slice A' (rows.getD j []).length c' ∧ (rows.getD j []).length ≤ c' ∧ (Kd.int .i64).C w A' (rows.getD j []).length (rows.getD j []) := fun j => by
    by_cases hj : j < rows.length
    · obtain ⟨ad, A1, c1, e, hc, hl, hC⟩ := at_sl h j hj
      exact ⟨_, fun _ => ⟨ad, A1, c1, e, hc, rfl, hl, hC⟩⟩
    · exact ⟨.slice none 0 0, fun h => absurd h hj⟩
  refine ⟨(List.range rows.length).map fun j => (hex j).choose, by simp, fun j hj => ?_⟩
  obtain ⟨ad, A', c', e, hc, hv, hl, hC⟩ := (hex j).choose_spec hj
  refine ⟨ad, A', c', e, by rw [hc, hv], ?_, hl, hC⟩
  rw [List.getElem?_map, List.getElem?_range hj, Option.map_some, ← hv]

/-- Each row with its text. -/
def keyed_rows (vs : List Value) (rows : List (List Int)) (places : List Int) : List (Value × List UInt8) := (vs.zip rows).map fun p => (p.1, keyB (pickL p.2 places))
theorem keyed_take (vs : List Value) (rows : List (List Int)) (places : List Int) (k : Nat) (v : Value) (hv : vs[k]? = some v) (hk : k < rows.length) :
    keyed_rows (vs.take (k + 1)) (rows.take (k + 1)) places = keyed_rows (vs.take k) (rows.take k) places ++ [(v, keyB (pickL (rows.getD k []) places))] := by
  obtain ⟨h1, h2⟩ := List.getElem?_eq_some_iff.1 hv
  unfold keyed_rows
  rw [List.take_succ_eq_append_getElem h1, List.take_succ_eq_append_getElem hk, List.zip_append (by simp; omega), List.map_append]
  simp [h2, hk]

theorem info_rows : (Tryd.prog.info? 25).map (fun i => (i.zero, i.size, i.bytes)) = some (some (.slice none 0 0), 1, 24) := by kernel_rfl

theorem h64k {rows : List (List Int)} (h : ∀ t ∈ rows, ∀ n ∈ t, in64 n) {k : Nat} (hk : k < rows.length) : ∀ n ∈ rows.getD k [], in64 n := by
  rw [List.getD_eq_getElem?_getD, List.getElem?_eq_getElem hk]
  exact h _ (List.getElem_mem hk)
theorem grp_len_le (rs : List (Value × List UInt8)) (l : List UInt8) (n : Nat) (h : rs.length ≤ n) : (grp rs l).length ≤ n := by
  unfold grp
  rw [List.length_map]
  exact Nat.le_trans (List.length_filter_le _ _) h

set_option maxHeartbeats 1000000 in
set_option maxRecDepth 100000 in
theorem join_index.calls (A0 : Option Addr) (c0 : Nat) (sch : List Int) (A1 : Option Addr) (c1 : Nat) (rows : List (List Int)) (A2 : Option Addr) (c2 : Nat) (vars : List Int) (vs : List Value) (w : World)
    (hr0 : Kd.C (Kd.int .i64) w A0 sch.length sch) (hc0 : sch.length ≤ c0) (hr1 : RowVals w A1 rows vs) (hr2 : Kd.C (Kd.int .i64) w A2 vars.length vars) (hc2 : vars.length ≤ c2)
    (hl1 : rows.length < 1099511627776) (hl2 : vars.length < 34359738368) (h64 : ∀ t ∈ rows, ∀ n ∈ t, in64 n) (hT : TabOk w) :
    Calls Tryd.prog 32 #[.agg #[.slice A0 sch.length c0, .slice A1 rows.length c1], .slice A2 vars.length c2] w fun e w' => ∃ b : Nat, e = .returned (.map (some b)) ∧ GroupsAt w' w.heap.size b rows.length (keyed_rows vs rows (placesL sch vars)) ∧ Below w.heap.size w w' := by
  have hlv := Kd.C_max hr2
  have hls := Kd.C_max hr0
  have HR0 := Aside0.mk hr0
  have HC0 := Aside0.mk hc0
  have HR1 := Aside0.mk hr1
  have HR2 := Aside0.mk hr2
  have HC2 := Aside0.mk hc2
  have HL1 := Aside0.mk hl1
  have HL2 := Aside0.mk hl2
  have H64 := Aside0.mk h64
  have HT := Aside0.mk hT
  have HP := Aside0.mk (join_places_eq sch vars hls (by omega))
  have hmm := @run_makeMap Tryd.prog
  clear hr0 hc0 hr1 hr2 hc2 h64 hT hls hlv
  go_enter Tryd.func32, Tryd.ntmps32
  go_wp2_with fail
  have hb0 : Below w.heap.size w (w.alloc (.cells #[.slice A0 sch.length c0, .slice A1 rows.length c1] 36)) := (Below.refl _ _).alloc (Nat.le_refl _) _
  refine (join_places.calls _ A0 c0 sch A2 c2 vars _ _ (Kd.C_below HR0.out hb0) HC0.out (Kd.C_below HR2.out hb0) HC2.out HP.out).mono ?_
  rintro e w1 ⟨vat, rfl, hat, hb1⟩
  have hbx : w1.heap[w.heap.size]? = some (.cells #[.slice A0 sch.length c0, .slice A1 rows.length c1] 36 (0, 0)) := (hb1.block _ (by simp)).trans (heap_alloc_new w _)
  have hx1 : w1.cell? ⟨w.heap.size, 1, none⟩ = some (.slice A1 rows.length c1) := (blk_cell hbx 1).trans rfl
  have hx2 : (w1.alloc (.map #[] 0)).cell? ⟨w.heap.size, 1, none⟩ = some (.slice A1 rows.length c1) := (blk_cell (blk_alloc hbx _) 1).trans rfl
  have HB := Aside0.mk (below_step hb0 hb1)
  have HAT := Aside0.mk (OwnEl.of_R (Kd.R_lower hat hb0.size))
  clear hb0 hb1 hat hbx hx1
  go_wp2
  go_loopw [9, 18] (fun _ i wr => ∃ k : Nat, k ≤ rows.length ∧ i = .int .i64 k ∧ Aside0 (GroupsAt wr w.heap.size w1.heap.size k (keyed_rows (vs.take k) (rows.take k) (placesL sch vars))) ∧ Aside0 (Below w.heap.size w wr) ∧ Aside0 (OwnEl wr w.heap.size (vat, placesL sch vars))) (fun _ i _ => rows.length - (intOf i).toNat)
  case atStart => exact ⟨0, Nat.zero_le _, rfl, aside0 (by simpa [keyed_rows] using GroupsAt.made w1 w.heap.size HB.out.size), aside0 (HB.out.alloc HB.out.size _), aside0 (HAT.out.below ((Below.refl _ _).alloc (Nat.le_refl _) _))⟩
  case round =>
    clear HAT hx2 hmm
    obtain ⟨k, hk, rfl, HG, HB2, HAT⟩ := hrel
    by_cases hlt : k < rows.length
    · have hd : decide ((k : Int) < (rows.length : Int)) = true := decide_eq_true (by omega)
      have hd2 : decide (k < rows.length) = true := decide_eq_true hlt
      obtain ⟨ad, A', c', e1, hx, hv, hcl, hC⟩ := HR1.out.2 k hlt
      subst e1
      replace hx := (HB2.out.cell (World.block_lt_of_cell? w _ hx)).trans hx
      have HS := Aside0.mk (keyed_take vs rows (placesL sch vars) k _ hv hlt)
      have HN := Aside0.mk (h64k H64.out hlt)
      have HCC := Aside0.mk (Kd.C_below hC HB2.out)
      have HCL := Aside0.mk hcl
      generalize hy : rows.getD k [] = y at hx HS HN HCC HCL
      clear hy hv hcl hC
      obtain ⟨Aa, ca, e2, hal, haC⟩ := HAT.out.reads
      have e2 : vat = .slice Aa (placesL sch vars).length ca := e2
      subst e2
      have HAL := Aside0.mk hal
      have HAC := Aside0.mk haC
      have hpl : (placesL sch vars).length = vars.length := by simp [placesL]
      have HPK := Aside0.mk (show tuple_Pick.f y (placesL sch vars) = some (pickL y (placesL sch vars)) from by unfold tuple_Pick.f; rw [if_pos (by omega)])
      have HPLE := Aside0.mk (show (placesL sch vars).length < 34359738368 by omega)
      clear hal haC hpl
      go_wp2_with fail
      refine (tuple_Pick.calls A' c' y Aa ca (placesL sch vars) _ _ HCC.out HCL.out HAC.out HAL.out HPK.out).mono ?_
      rintro e w2 ⟨vp, rfl, hp, hb2⟩
      have HP2 := Aside0.mk hp
      have HBp := Aside0.mk (below_step HB2.out hb2)
      have HG2 := Aside0.mk (HG.out.below hb2)
      have HAT2 := Aside0.mk (HAT.out.below hb2)
      clear hp hb2 HG HB2 HAT HCC HCL HAL HAC HPK hx
      obtain ⟨Ap, cp, rfl, hpl2, hpC⟩ := Kd.R_reads HP2.out
      have HPC := Aside0.mk hpC
      have HKL := Aside0.mk (pickL_len y (placesL sch vars))
      have HN2 := Aside0.mk (show ∀ n ∈ pickL y (placesL sch vars), in64 n from fun n hn => HN.out n (mem_pickL hn))
      have HKB := Aside0.mk (keyB_len (pickL y (placesL sch vars)) HN2.out)
      clear hpC hpl2
      go_wp2_with fail
      refine (join_key.calls Ap cp (pickL y (placesL sch vars)) _ HPC.out (by have := HKL.out; have := HPLE.out; omega) HN2.out (HT.out.on HBp.out)).mono ?_
      rintro e w3 ⟨rfl, hb3⟩
      have HBk := Aside0.mk (below_step HBp.out hb3)
      have HG3 := Aside0.mk (HG2.out.below hb3)
      have HAT3 := Aside0.mk (HAT2.out.below hb3)
      clear hb3 HG2 HBp HAT2 HP2 HPC
      have hlen : (keyB (pickL y (placesL sch vars))).length ≤ maxLen := by have := HKB.out; have := HKL.out; have := HPLE.out; simp only [maxLen]; omega
      have HLEN := Aside0.mk hlen
      generalize hq : pickL y (placesL sch vars) = q at HS HLEN
      clear hq HKL HKB HN2 hlen
      obtain ⟨m, hm, ho, ha⟩ := HG3.out.map
      have hlook := hm.look q HLEN.out
      have HM := Aside0.mk hm
      have HO := Aside0.mk ho
      have HA := Aside0.mk ha
      have HGL := Aside0.mk (show (grp (keyed_rows (vs.take k) (rows.take k) (placesL sch vars)) (keyB q)).length ≤ rows.length from grp_len_le _ _ _ (by simp [keyed_rows]; omega))
      clear hm ho ha
      go_wp2_with (first | ((with_reducible refine gate_builtin (b := .append) (xs := #[.tmp 30, .tmp 32]) rfl ?_); at_builtin; refine print_append_cells (w0 := w) w.heap.size rfl (.tmp 30) (.tmp 32) 24 25 (.slice none 0 0) 1 24 rfl Tryd.underlying24 info_rows rfl (by decide) (by decide) _ _ (grp (keyed_rows (vs.take k) (rows.take k) (placesL sch vars)) (keyB q)) [.slice A' y.length c'] rfl rfl rfl (by simp [Value.oneCell']) (HO.out (keyB q)) ?aB ?aS ?aL ?_; (case aB => exact HBk.out); (case aS => exact HBk.out.size); (case aL => have := HGL.out; have := HL1.out; omega); intro v1 w4 ho4 hb4 hg4 hat4; obtain ⟨w5, hput, hG5, hg5⟩ := HG3.out.push (by simp only [maxLen]; have := HL1.out; omega) q HLEN.out (.slice A' y.length c') v1 m HM.out HO.out HA.out ho4 hg4 hat4; have HG5 := Aside0.mk hG5; have HB4 := Aside0.mk hb4; have HG4 := Aside0.mk hg4; have HGG5 := Aside0.mk hg5; clear hG5 hb4 hg4 hat4 ho4 hg5 hlook) | fail)
      go_roundw
      case rel =>
        refine ⟨k + 1, by omega, by go_num, aside0 ?_, aside0 ?_, aside0 ?_⟩
        · rw [HS.out]; exact HG5.out
        · exact HB4.out.grown HGG5.out (Nat.le_trans HBk.out.size HG4.out.size) (fun g hg => by cases hg; exact HG3.out.ge)
        · refine (HAT3.out.grown HG4.out (fun g hg cells hc => ?_)).grown HGG5.out (fun g hg cells hc => ?_)
          · obtain ⟨cl, hcl⟩ := own_typed (HO.out (keyB q)) g hg
            rw [hc] at hcl
            injection hcl with hcl
            injection hcl with _ hcl
            exact absurd hcl (by decide)
          · cases hg
            obtain ⟨es, cc, hbm⟩ := HM.out.obj
            have := (HG4.out.block _ HM.out.lt (fun e => by
              obtain ⟨cl, hcl⟩ := own_typed (HO.out (keyB q)) _ e.symm
              rw [hbm] at hcl
              cases hcl)).trans hbm
            rw [this] at hc
            cases hc
      case measure => simp [intOf]; omega
    · have hke : k = rows.length := by omega
      subst hke
      have hd2 : decide (rows.length < rows.length) = false := decide_eq_false (by omega)
      rw [List.take_length, List.take_of_length_le (Nat.le_of_eq HR1.out.1)] at HG
      go_wp2
      go_ret
      exact ⟨_, rfl, HG.out, HB2.out⟩

end Go.Proofs.YtgejnljpdfjgpaaDoor.Q
/- slices.Clone at []int: what comes back is a row of the call's own, with the same numbers. Its conditions: the row is read at the call, and is shorter than 2^44. -/
namespace Go.Proofs.YtgejnljpdfjgpaaDoor.Q
open Go.RowKit Go.Proofs.YtgejnljpdfjgpaaDoorW.PrintWords Go.Proofs.YtgejnljpdfjgpaaDoorW.PrintLast Go.Proofs.YtgejnljpdfjgpaaDoorW.PrintMore
set_option linter.unusedVariables false
set_option linter.unusedSimpArgs false

def slices_Clone_int_int.f (l0 : List Int) : Option (List Int) := if l0.length < 17592186044416 then some l0 else none

set_option maxHeartbeats 1000000 in
set_option maxRecDepth 100000 in
theorem slices_Clone_int_int.calls (A0 : Option Addr) (c0 : Nat) (l0 : List Int) (r : List Int) (w : World) (hr0 : Kd.C (Kd.int .i64) w A0 l0.length l0) (hc0 : l0.length ≤ c0) (h : slices_Clone_int_int.f l0 = some r) :
    Calls Tryd.prog 29 #[.slice A0 l0.length c0] w fun e w' => ∃ v0_ : Value, e = .returned (v0_) ∧ Kd.R (Kd.int .i64) 3 w' w.heap.size (fun _ => True) v0_ r ∧ Below w.heap.size w w' := by
  have HR0 := Aside0.mk hr0
  have hq : ∀ (w : World) (a : Option Addr) (n c : Nat), (binOp .eql 25 (.slice a n c) (.slice none 0 0)).run Tryd.prog w = .ok (.bool a.isNone) w := fun w a n c => Lib.run_eql_slice_nil w _ _ a n c 0 0 Tryd.underlying25
  unfold slices_Clone_int_int.f at h
  by_cases c2 : l0.length < 17592186044416
  · rw [if_pos c2] at h
    obtain rfl := Option.some.inj h
    have LM := Aside0.mk c2
    have HB := Aside0.mk (Below.refl w.heap.size w)
    clear hr0 h c2
    cases A0 with
    | none =>
      have h0 : l0 = [] := by
        have := HR0.out.2.2
        cases l0 with
        | nil => rfl
        | cons x xs => obtain ⟨ad, e, _⟩ := this (by simp); cases e
      subst h0
      go_enter Tryd.func29, Tryd.ntmps29
      go_wp2
      go_ret
      exact ⟨_, rfl, Kd.R_nil _ _ _ _ _, Below.refl _ _⟩
    | some ad =>
      go_enter Tryd.func29, Tryd.ntmps29
      go_wp2_with (first | ((with_reducible refine gate_dst (N := 5) rfl ?_); refine Kd.R_lit (Kd.int .i64) _ 3 ?hg (N := 5) ?hd (xs := ([] : List Int)) (inner := []) (ok := fun _ => True) (okp := fun _ => True) ?hr ?hp (fun _ hk => hk) trivial (Below.refl _ _) (Nat.le_refl _) (by simp) ?_; (case hd => rfl); (case hg => rfl); (case hr => first | (go_simp; done) | (go_simp; rfl)); (case hp => exact (Reps.none _ _)); intro v219 w3 ho4 hb hg_ hnew_; clear hg_ hnew_; have HO := Aside0.mk (Kd.R_lower ho4 (below_size HB.out)); have HB1 := Aside0.mk (below_step HB.out hb); clear HB; have HB := HB1; clear HB1; clear hb ho4) | ((with_reducible refine gate_builtin (b := .append) (xs := #[.tmp 5, .tmp 6]) rfl ?_); at_builtin; refine Kd.R_append_rows (Kd.int .i64) (w0 := w) w.heap.size rfl (.tmp 5) (.tmp 6) 25 3 (.int .i64 0) 8 rfl Tryd.underlying25 info3 rfl (by decide) (by omega) v219 [] l0 _ _ _ (fun _ => True) (fun _ => False) rfl rfl ?aO ?aR (fun _ _ h => h) (fun _ h => h.elim) ?aF ?aB ?aS ?aL ?_; (case aR => exact (Kd.C_below HR0.out HB.out)); (case aB => exact HB.out); (case aF => exact (fun _ _ => trivial)); (case aO => exact HO.out); (case aS => exact (below_size HB.out)); (case aL => have := LM.out; simp; omega); intro v222 w5 ho hb hg hat; have HB1 := Aside0.mk hb; have HO1 := Aside0.mk ho; clear HB; clear HO; have HB := HB1; have HO := HO1; clear HB1 HO1; clear ho hb hg hat))
      go_ret
      exact ⟨_, rfl, HO.out, HB.out⟩
  · rw [if_neg c2] at h
    exact absurd h (by simp)

end Go.Proofs.YtgejnljpdfjgpaaDoor.Q
/- tuple.merge, and its closure: what comes back is a row of the call's own, which holds what 'mergeL' says. Its conditions: both rows are read at the call, and are together shorter than 2^43. -/
namespace Go.Proofs.YtgejnljpdfjgpaaDoor.Q
open Go.RowKit Go.Proofs.YtgejnljpdfjgpaaDoorW.PrintWords Go.Proofs.YtgejnljpdfjgpaaDoorW.PrintLast Go.Proofs.YtgejnljpdfjgpaaDoorW.PrintMore
set_option linter.unusedVariables false
set_option linter.unusedSimpArgs false

/-- What the closure leaves in its box. -/
def KeepBox (w0 : World) (B : Nat) (xs : List Int) (w' : World) : Prop :=
  ∃ v', w'.heap[B]? = some (.cells #[v'] 25 (0, 0)) ∧ Kd.R (Kd.int .i64) 3 w' w0.heap.size (fun _ => True) v' xs ∧ Below w0.heap.size w0 w'

theorem KeepBox.drewN {w0 : World} {B : Nat} {xs : List Int} {w : World} (h : KeepBox w0 B xs w) (n : Nat) : KeepBox w0 B xs (w.drewN n) := by
  obtain ⟨v, hb, hR, hbel⟩ := h
  exact ⟨v, hb, Kd.R_drewN hR n, pw_below_drewN hbel n⟩
theorem KeepBox.drew {w0 : World} {B : Nat} {xs : List Int} {w : World} (h : KeepBox w0 B xs w) : KeepBox w0 B xs w.drew := by
  obtain ⟨v, hb, hR, hbel⟩ := h
  exact ⟨v, hb, Kd.R_drew hR, below_drew hbel⟩

set_option maxHeartbeats 1000000 in
set_option maxRecDepth 100000 in
theorem tuple_merge_1.calls (is : Bool) (n : Int) (w0 : World) (B : Nat) (xs : List Int) (w : World) (hB : w0.heap.size ≤ B) (h : KeepBox w0 B xs w) (hl : xs.length < 17592186044415) :
    Calls Tryd.prog 50 #[.bool is, .int .i64 n, .pointer (some ⟨B, 0, none⟩)] w fun e w' => e = .returned (.tuple #[]) ∧ KeepBox w0 B (if is then xs ++ [n] else xs) w' := by
  obtain ⟨v, hb, hR, hbel⟩ := h
  cases is with
  | false =>
    have HH := Aside0.mk (show KeepBox w0 B xs w from ⟨v, hb, hR, hbel⟩)
    clear hb hR hbel hl hB
    go_enter Tryd.func50, Tryd.ntmps50
    go_wp2
    go_end0
    exact ⟨rfl, HH.out⟩
  | true =>
    have hcell : w.cell? ⟨B, 0, none⟩ = some v := (blk_cell hb 0).trans rfl
    have hlt := blk_lt hb
    have hne : ∀ k, v.ownBlock = some k → k ≠ B := by
      intro k hk e
      subst e
      obtain ⟨cells, hc⟩ := Kd.R_typed hR k hk
      rw [hb] at hc
      injection hc with hc
      injection hc with _ hc
      exact absurd hc (by decide)
    have HB := Aside0.mk hbel
    have HR := Aside0.mk hR
    have HL := Aside0.mk hl
    have HBk := Aside0.mk hb
    have HNE := Aside0.mk hne
    have HBB := Aside0.mk hB
    have HLT := Aside0.mk hlt
    obtain ⟨A, c, rfl⟩ := Kd.R_slice hR
    clear hbel hR hl hb hne hB hlt
    go_enter Tryd.func50, Tryd.ntmps50
    go_wp2_with ((with_reducible refine gate_builtin (b := .append) (xs := #[.tmp 6, .tmp 8]) rfl ?_); at_builtin; refine Kd.R_append (Kd.int .i64) (w0 := w0) w0.heap.size rfl (.tmp 6) (.tmp 8) 25 3 (.int .i64 0) 8 rfl Tryd.underlying25 info3 rfl (by decide) (by omega) _ xs n [.int .i64 n] (fun _ => True) (fun _ => False) rfl rfl ?aP (fun _ hk => hk.elim) (fun _ _ => trivial) ?aO ?aB ?aS ?aL ?_; (case aP => rfl); (case aO => exact HR.out); (case aB => exact HB.out); (case aS => exact HB.out.size); (case aL => have := HL.out; omega); intro v1 w1 ho hb hg hat; have hb1 := blk_grown HBk.out hg (fun e => HNE.out B e.symm rfl); have hc1 : w1.cell? ⟨B, 0, none⟩ = some (.slice A xs.length c) := (blk_cell hb1 0).trans rfl; have hfz : w1.frozen? ⟨B, 0, none⟩ = false := blk_frozen hb1 0; have HB1 := Aside0.mk hb; have HO1 := Aside0.mk ho; have HK1 := Aside0.mk hb1; clear hb ho hb1 hg hat; obtain ⟨A1, c1, rfl⟩ := Kd.R_slice HO1.out)
    go_end0
    refine ⟨rfl, _, blk_set HK1.out 0 _, ?_, HB1.out.setCell HBB.out _⟩
    have h := HO1.out
    rw [List.length_append, List.length_singleton] at h
    exact Kd.R_set h HK1.out (by simp [Kd.int, Kd.scalar]) 0 _

/-- What is in the first alone, in both, in the second alone is kept, or not. -/
def mergeL (f b s : Bool) : List Int → List Int → List Int
  | [], [] => []
  | x :: xs, [] => (if f then [x] else []) ++ mergeL f b s xs []
  | [], y :: ys => (if s then [y] else []) ++ mergeL f b s [] ys
  | x :: xs, y :: ys =>
    if x < y then (if f then [x] else []) ++ mergeL f b s xs (y :: ys)
    else if y < x then (if s then [y] else []) ++ mergeL f b s (x :: xs) ys
    else (if b then [x] else []) ++ mergeL f b s xs ys
termination_by l m => l.length + m.length

def tuple_merge.f (l0 l1 : List Int) (a2 a3 a4 : Bool) : Option (List Int) := if l0.length + l1.length < 17592186044415 then some (mergeL a2 a3 a4 l0 l1) else none



/-- The rows that are left at a round's head. -/
def MergeRel (w : World) (B : Nat) (f b s : Bool) (l0 l1 : List Int) (u v : Value) (wr : World) : Prop :=
  ∃ (la lb acc : List Int) (A A' : Option Addr) (c c' : Nat), u = .slice A la.length c ∧ v = .slice A' lb.length c' ∧ la.length ≤ c ∧ lb.length ≤ c' ∧
    Kd.C (Kd.int .i64) w A la.length la ∧ Kd.C (Kd.int .i64) w A' lb.length lb ∧ KeepBox w B acc wr ∧ acc ++ mergeL f b s la lb = mergeL f b s l0 l1 ∧ acc.length + la.length + lb.length ≤ l0.length + l1.length

theorem if_app (b : Bool) (acc l : List Int) (x : Int) : (if b then acc ++ [x] else acc) ++ l = acc ++ ((if b then [x] else []) ++ l) := by cases b <;> simp

set_option maxHeartbeats 2000000 in
set_option maxRecDepth 100000 in
theorem tuple_merge.calls (A0 : Option Addr) (c0 : Nat) (l0 : List Int) (A1 : Option Addr) (c1 : Nat) (l1 : List Int) (a2 a3 a4 : Bool) (r : List Int) (w : World) (hr0 : Kd.C (Kd.int .i64) w A0 l0.length l0) (hc0 : l0.length ≤ c0) (hr1 : Kd.C (Kd.int .i64) w A1 l1.length l1) (hc1 : l1.length ≤ c1) (h : tuple_merge.f l0 l1 a2 a3 a4 = some r) :
    Calls Tryd.prog 44 #[.slice A0 l0.length c0, .slice A1 l1.length c1, .bool a2, .bool a3, .bool a4] w fun e w' => ∃ v0_ : Value, e = .returned (v0_) ∧ Kd.R (Kd.int .i64) 3 w' w.heap.size (fun _ => True) v0_ r ∧ Below w.heap.size w w' := by
  unfold tuple_merge.f at h
  by_cases c2 : l0.length + l1.length < 17592186044415
  · rw [if_pos c2] at h
    obtain rfl := Option.some.inj h
    have hK0 : Aside0 (KeepBox w w.heap.size [] (w.alloc (.cells #[.slice none 0 0] 25))) := ⟨.slice none 0 0, heap_alloc_new w _, Kd.R_nil _ _ _ _ _, (Below.refl _ _).alloc (Nat.le_refl _) _⟩
    have HR0 := Aside0.mk hr0
    have HR1 := Aside0.mk hr1
    have HC0 := Aside0.mk hc0
    have HC1 := Aside0.mk hc1
    have HL := Aside0.mk c2
    have hmf : ∀ (fn : Fn) (first cap : Array Value) (w : World), (Instr.makeFunc fn first cap).run Tryd.prog w = .ok (.func fn first cap) w := fun _ _ _ _ => rfl
    clear hr0 hr1 hc0 hc1 c2 h
    go_enter Tryd.func44, Tryd.ntmps44
    go_wp2
    go_loopw [0, 1] (fun u v wr => MergeRel w w.heap.size a2 a3 a4 l0 l1 u v wr) (fun u v _ => lenOf u + lenOf v)
    case atStart => exact ⟨l0, l1, [], _, _, _, _, rfl, rfl, HC0.out, HC1.out, HR0.out, HR1.out, hK0.out, rfl, by simp⟩
    case round =>
      obtain ⟨la, lb, acc, A, A', c, c', rfl, rfl, hc, hc', hC, hC', hK, hm, hl⟩ := hrel
      clear hK0 HR0 HR1 HC0 HC1
      have HM := Aside0.mk hm
      have HL2 := Aside0.mk hl
      have HCa := Aside0.mk hC
      have HCb := Aside0.mk hC'
      have Hca := Aside0.mk hc
      have Hcb := Aside0.mk hc'
      have HK := Aside0.mk hK
      clear hm hl hC hC' hK hc hc'
      cases la with
      | nil =>
        cases lb with
        | nil =>
          simp only [List.length_nil]
          obtain ⟨v, hb, hR, hbel⟩ := HK.out
          obtain ⟨A2, c2, rfl⟩ := Kd.R_slice hR
          have hcell : wr.cell? ⟨w.heap.size, 0, none⟩ = some (.slice A2 acc.length c2) := (blk_cell hb 0).trans rfl
          have hfz : wr.frozen? ⟨w.heap.size, 0, none⟩ = false := blk_frozen hb 0
          have hcell2 : (wr.setCell ⟨w.heap.size, 0, none⟩ (.slice A2 acc.length c2)).cell? ⟨w.heap.size, 0, none⟩ = some (.slice A2 acc.length c2) := (blk_cell (blk_set hb 0 _) 0).trans rfl
          have HBk := Aside0.mk hb
          have HR := Aside0.mk hR
          have HB := Aside0.mk hbel
          clear hb hR hbel HK
          go_wp2
          refine bodyPost_ret (v := .slice A2 acc.length c2) (by simp [results, Tryd.results44, go_sem, hcell2]) rfl ⟨_, rfl, ?_, HB.out.setCell (Nat.le_refl _) _⟩
          have hm := HM.out
          simp only [mergeL, List.append_nil] at hm
          rw [← hm]
          exact Kd.R_set HR.out HBk.out (by simp [Kd.int, Kd.scalar]) 0 _
        | cons y ys =>
          simp only [List.length_cons, List.length_nil]
          obtain ⟨ad, rfl, hx⟩ := Kd.at_int HCb.out 0 (by omega) (by simp)
          have hb := HK.out.choose_spec.2.2
          replace hx := (hb.cell (World.block_lt_of_cell? w _ hx)).trans hx
          have hx : wr.cell? ad = some (.int .i64 y) := hx
          clear hb
          have k1 : decide ((0 : Int) < ((ys.length : Int) + 1)) = true := decide_eq_true (by omega)
          have k2 : (((ys.length : Int) + 1) == 0) = false := beq_eq_false_iff_ne.mpr (by omega)
          have hcut := fun W => cut_from (P := Tryd.prog) 25 3 .i64 Tryd.underlying25 (info_parts info3).choose_spec.1 1 (info_parts info3).choose_spec.2.2.1 (some ad) (ys.length + 1) c' 1 (by omega) (by omega) W
          go_wp2_with fail
          go_quiet (fail)
          go_wp2_with fail
          go_quiet (fail)
          go_wp2_with fail
          refine (tuple_merge_1.calls a4 y w w.heap.size acc _ (Nat.le_refl _) (HK.out.drewN _) (by have := HL.out; have := HL2.out; simp at this; omega)).mono ?_
          rintro e w1 ⟨rfl, hk⟩
          clear HK hx
          have HK := Aside0.mk hk
          clear hk
          go_wp2
          go_roundw
          case rel =>
            refine ⟨[], ys, _, _, _, _, _, rfl, rfl, Hca.out, ?_, HCa.out, Kd.C_drop HCb.out (m := 1) (by simp) Hcb.out, HK.out, ?_, ?_⟩
            · have := Hcb.out
              simp at this
              omega
            · have hm := HM.out
              simp only [mergeL] at hm
              rw [if_app, hm]
            · have := HL2.out
              simp at this
              split <;> simp <;> omega
          case measure => simp [lenOf]
      | cons x xs =>
        have hxa := HCa.out
        obtain ⟨ad, rfl, hx⟩ := Kd.at_int hxa 0 (by omega) (by simp)
        clear hxa
        have hb := HK.out.choose_spec.2.2
        replace hx := (hb.cell (World.block_lt_of_cell? w _ hx)).trans hx
        have hx : wr.cell? ad = some (.int .i64 x) := hx
        have k1 : decide ((0 : Int) < ((xs.length : Int) + 1)) = true := decide_eq_true (by omega)
        have k2 : (((xs.length : Int) + 1) == 0) = false := beq_eq_false_iff_ne.mpr (by omega)
        have hcut := fun W => cut_from (P := Tryd.prog) 25 3 .i64 Tryd.underlying25 (info_parts info3).choose_spec.1 1 (info_parts info3).choose_spec.2.2.1 (some ad) (xs.length + 1) c 1 (by omega) (by omega) W
        cases lb with
        | nil =>
          clear hb
          simp only [List.length_cons, List.length_nil]
          go_wp2_with fail
          go_quiet (fail)
          go_wp2_with fail
          refine (tuple_merge_1.calls a2 x w w.heap.size acc _ (Nat.le_refl _) (HK.out.drewN _) (by have := HL.out; have := HL2.out; simp at this; omega)).mono ?_
          rintro e w1 ⟨rfl, hk⟩
          clear HK hx
          have HK := Aside0.mk hk
          clear hk
          go_wp2
          go_roundw
          case rel =>
            refine ⟨xs, [], _, _, _, _, _, rfl, rfl, ?_, Hcb.out, Kd.C_drop HCa.out (m := 1) (by simp) Hca.out, HCb.out, HK.out, ?_, ?_⟩
            · have := Hca.out
              simp at this
              omega
            · have hm := HM.out
              simp only [mergeL] at hm
              rw [if_app, hm]
            · have := HL2.out
              simp at this
              split <;> simp <;> omega
          case measure => simp [lenOf]
        | cons y ys =>
          have hyb := HCb.out
          obtain ⟨ae, rfl, hy⟩ := Kd.at_int hyb 0 (by omega) (by simp)
          clear hyb
          replace hy := (hb.cell (World.block_lt_of_cell? w _ hy)).trans hy
          have hy : wr.cell? ae = some (.int .i64 y) := hy
          clear hb
          have k3 : decide ((0 : Int) < ((ys.length : Int) + 1)) = true := decide_eq_true (by omega)
          have k4 : (((ys.length : Int) + 1) == 0) = false := beq_eq_false_iff_ne.mpr (by omega)
          have hcut2 := fun W => cut_from (P := Tryd.prog) 25 3 .i64 Tryd.underlying25 (info_parts info3).choose_spec.1 1 (info_parts info3).choose_spec.2.2.1 (some ae) (ys.length + 1) c' 1 (by omega) (by omega) W
          simp only [List.length_cons]
          by_cases c1 : x < y
          · have d1 : decide (x < y) = true := decide_eq_true c1
            have C1 := Aside0.mk c1
            clear c1
            go_wp2_with fail
            go_quiet (fail)
            go_wp2_with fail
            refine (tuple_merge_1.calls a2 x w w.heap.size acc _ (Nat.le_refl _) (HK.out.drewN _) (by have := HL.out; have := HL2.out; simp at this; omega)).mono ?_
            rintro e w1 ⟨rfl, hk⟩
            clear HK hx hy
            have HK := Aside0.mk hk
            clear hk
            go_wp2
            go_roundw
            case rel =>
              refine ⟨xs, y :: ys, _, _, _, _, _, rfl, rfl, ?_, Hcb.out, Kd.C_drop HCa.out (m := 1) (by simp) Hca.out, HCb.out, HK.out, ?_, ?_⟩
              · have := Hca.out
                simp at this
                omega
              · have hm := HM.out
                simp only [mergeL] at hm
                rw [if_pos C1.out] at hm
                rw [if_app, hm]
              · have := HL2.out
                simp at this
                split <;> simp <;> omega
            case measure => simp [lenOf]
          · have d1 : decide (x < y) = false := decide_eq_false c1
            have C1 := Aside0.mk c1
            clear c1
            by_cases c2 : y < x
            · have d2 : decide (y < x) = true := decide_eq_true c2
              have C2 := Aside0.mk c2
              clear c2
              go_wp2_with fail
              go_quiet (fail)
              go_wp2_with fail
              go_quiet (fail)
              go_wp2_with fail
              refine (tuple_merge_1.calls a4 y w w.heap.size acc _ (Nat.le_refl _) (HK.out.drewN _) (by have := HL.out; have := HL2.out; simp at this; omega)).mono ?_
              rintro e w1 ⟨rfl, hk⟩
              clear HK hx hy
              have HK := Aside0.mk hk
              clear hk
              go_wp2
              go_roundw
              case rel =>
                refine ⟨x :: xs, ys, _, _, _, _, _, rfl, rfl, Hca.out, ?_, HCa.out, Kd.C_drop HCb.out (m := 1) (by simp) Hcb.out, HK.out, ?_, ?_⟩
                · have := Hcb.out
                  simp at this
                  omega
                · have hm := HM.out
                  simp only [mergeL] at hm
                  rw [if_neg (by have := C1.out; omega), if_pos (by have := C2.out; omega)] at hm
                  rw [if_app, hm]
                · have := HL2.out
                  simp at this
                  split <;> simp <;> omega
              case measure => simp [lenOf]
            · have d2 : decide (y < x) = false := decide_eq_false c2
              have C2 := Aside0.mk c2
              clear c2
              go_wp2_with fail
              go_quiet (fail)
              go_wp2_with fail
              go_quiet (fail)
              go_wp2_with fail
              refine (tuple_merge_1.calls a3 x w w.heap.size acc _ (Nat.le_refl _) (HK.out.drewN _) (by have := HL.out; have := HL2.out; simp at this; omega)).mono ?_
              rintro e w1 ⟨rfl, hk⟩
              clear HK hx hy
              have HK := Aside0.mk hk
              clear hk
              go_wp2_with fail
              go_quiet (fail)
              go_wp2
              go_roundw
              case rel =>
                refine ⟨xs, ys, _, _, _, _, _, rfl, rfl, ?_, ?_, Kd.C_drop HCa.out (m := 1) (by simp) Hca.out, Kd.C_drop HCb.out (m := 1) (by simp) Hcb.out, HK.out.drewN _, ?_, ?_⟩
                · have := Hca.out
                  simp at this
                  omega
                · have := Hcb.out
                  simp at this
                  omega
                · have hm := HM.out
                  simp only [mergeL] at hm
                  rw [if_neg (by have := C1.out; omega), if_neg (by have := C2.out; omega)] at hm
                  rw [if_app, hm]
                · have := HL2.out
                  simp at this
                  split <;> simp <;> omega
              case measure => simp [lenOf]; omega
  · rw [if_neg c2] at h
    exact absurd h (by simp)

end Go.Proofs.YtgejnljpdfjgpaaDoor.Q
namespace Go.Proofs.YtgejnljpdfjgpaaDoor.Q
open Go.RowKit Go.Proofs.YtgejnljpdfjgpaaDoorW.PrintWords Go.Proofs.YtgejnljpdfjgpaaDoorW.PrintLast Go.Proofs.YtgejnljpdfjgpaaDoorW.PrintMore
attribute [local go_sem] max2_int min2_int max_two min_two max_three min_three max_four min_four   -- for this text's walks alone
set_option linter.unusedVariables false
set_option linter.unusedSimpArgs false

/-! ### tuple_Meet: function 30 -/
def tuple_Meet.f (l0 : List Int) (l1 : List Int) : Option (List Int) := (tuple_merge.f l0 l1 false true false).bind fun t143 => (some t143)
set_option maxHeartbeats 8000000 in
set_option maxRecDepth 100000 in
theorem tuple_Meet.calls (A0 : Option Addr) (c0 : Nat) (l0 : List Int) (A1 : Option Addr) (c1 : Nat) (l1 : List Int) (r : List Int) (w : World) (hr0 : Kd.C (Kd.int .i64) w A0 l0.length l0) (hc0 : l0.length ≤ c0) (hr1 : Kd.C (Kd.int .i64) w A1 l1.length l1) (hc1 : l1.length ≤ c1) (h : tuple_Meet.f l0 l1 = some r) :
  Calls Tryd.prog 30 #[.slice A0 l0.length c0, .slice A1 l1.length c1] w fun e w' => ∃ v0_ : Value, e = .returned (v0_) ∧ Kd.R (Kd.int .i64) 3 w' w.heap.size (fun _ => True) v0_ r ∧ Below w.heap.size w w' := by
 have HR0 := Aside0.mk hr0
 have HC0 := Aside0.mk hc0
 clear hr0 hc0
 have HR1 := Aside0.mk hr1
 have HC1 := Aside0.mk hc1
 clear hr1 hc1
 have HB := Aside0.mk (Below.refl w.heap.size w)
 have H : ((tuple_merge.f l0 l1 false true false).bind fun t143 => (some t143)) = some r := h
 clear h
 replace H := Option.bind_eq_some_iff.mp H
 obtain ⟨t143, A30, H⟩ := H
 replace H : (some t143) = some r := H
 have A3 := Aside0.mk A30
 clear A30
 obtain rfl := Option.some.inj H
 go_enter Tryd.func30, Tryd.ntmps30
 go_wp2_with (first | ((with_reducible refine gate_callee (f := 44) rfl ?_); refine goesL_ (some 7) rfl rfl Tryd.func44 (by kernel_rfl) rfl #[.slice A0 l0.length c0, .slice A1 l1.length c1, .bool false, .bool true, .bool false] rfl (by (try simp only [List.map_toArray, List.map_cons, List.map_nil]); first | done | rfl | (simp only [List.length_drop, List.length_take]; rfl)) ?_; (with_reducible refine (tuple_merge.calls _ _ l0 _ _ l1 false true false t143 _ ?side1 ?side2 ?side3 ?side4 A3.out).mono ?_); (case side1 => repeat (first | exact HR0.out | (with_reducible refine Kd.C_alloc ?_ _) | (with_reducible refine Kd.C_drewN ?_ _) | (with_reducible refine Kd.C_drew ?_))); (case side2 => exact HC0.out); (case side3 => repeat (first | exact HR1.out | (with_reducible refine Kd.C_alloc ?_ _) | (with_reducible refine Kd.C_drewN ?_ _) | (with_reducible refine Kd.C_drew ?_))); (case side4 => exact HC1.out); rintro e w4 ⟨v144, rfl, ho0, hb⟩; refine ⟨_, rfl, ?_⟩; have n0_ := Aside0.mk (Kd.R_lower ho0 (below_size (by repeat (first | (with_reducible first | exact HB.out | apply below_alloc | apply pw_below_drewN | apply below_drew1) | exact HB.out)))); have n1_ := Aside0.mk (below_step (by repeat (first | (with_reducible first | exact HB.out | apply below_alloc | apply pw_below_drewN | apply below_drew1) | exact HB.out)) hb); clear HB; have HO145 := n0_; have HB := n1_; clear n0_ n1_; (try clear hb); (try clear hb2); (try clear hk); (try clear hi); (try clear ho0)))
 go_ret
 exact ⟨_, by first | rfl | (simp [errW_none, errW_some] <;> rfl) | (simp [*, errW_none, errW_some] <;> rfl), by (with_reducible repeat (first | apply Kd.R_alloc | apply Kd.R_drewN | apply Kd.R_drew)); exact HO145.out, by repeat (first | (with_reducible first | exact HB.out | apply below_alloc | apply pw_below_drewN | apply below_drew1) | exact HB.out)⟩

end Go.Proofs.YtgejnljpdfjgpaaDoor.Q
