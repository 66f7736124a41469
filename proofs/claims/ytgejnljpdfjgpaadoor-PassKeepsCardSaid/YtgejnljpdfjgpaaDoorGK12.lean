/- A part of the proof of this claim (part 12 of 16): contracts of callees and plain facts, each with its own conditions before its statement. -/
import Derived.Deep.AppendLies
import Derived.Deep.Cut
import Derived.Deep.DeepCutAuto
import Derived.Deep.Light
import Derived.Test.YtgejnljpdfjgpaaDoorGK7
import Derived.Test.YtgejnljpdfjgpaaDoorGK11
set_option linter.unusedVariables false
set_option linter.unusedSimpArgs false
/- law16's shape: a tree of few bags and a relation of each. Its condition: the parts are read at the call. -/
namespace Go.Proofs.YtgejnljpdfjgpaaDoor.Q
open Go.RowKit Go.Proofs Go.Proofs.YtgejnljpdfjgpaaDoorW.PrintWords Go.Proofs.YtgejnljpdfjgpaaDoorW.PrintLast Go.Proofs.YtgejnljpdfjgpaaDoorW.PrintMore
set_option linter.unusedVariables false
set_option linter.unusedSimpArgs false

theorem C_one (W : World) (v : Int) : Kd.C (Kd.int .i64) (W.alloc (.cells #[.int .i64 v] 3)) (some ⟨W.heap.size, 0, none⟩) 1 [v] := by
  refine ⟨rfl, by decide, fun _ => ⟨⟨W.heap.size, 0, none⟩, rfl, fun j p hp => ?_⟩⟩
  match j, hp with
  | 0, hp =>
    simp at hp
    subst hp
    refine ⟨[.int .i64 v], rfl, rfl, fun i u hu => ?_⟩
    match i, hu with
    | 0, hu => simp at hu; subst hu; rw [add0]; exact (blk_cell (heap_alloc_new W _) _).trans rfl
    | n + 1, hu => simp at hu
  | j + 1, hp => simp at hp

theorem OwnEl.empty (W : World) : OwnEl (W.alloc (.cells #[] 3)) W.heap.size (.slice (some ⟨W.heap.size, 0, none⟩) 0 0, []) :=
  OwnEl.of_own (World.ownsRow_made W #[] 0 (Nat.le_refl _) (by simp [maxLen]) rfl)
theorem RowsOwn.empty (W : World) : RowsOwn (W.alloc (.cells #[] 25)) W.heap.size (.slice (some ⟨W.heap.size, 0, none⟩) 0 0) [] :=
  ⟨World.ownsRow_made W #[] 0 (Nat.le_refl _) (by simp [maxLen]) rfl, fun p h => absurd h (List.not_mem_nil), fun i j p q h => by simp at h⟩

set_option maxHeartbeats 4000000 in
set_option maxRecDepth 100000 in
theorem law16_shape.calls (A0 : Option Addr) (c0 : Nat) (l : List S41) (w : World) (hr0 : Kd.C k41 w A0 l.length l) (hc0 : l.length ≤ c0) :
    Calls Tryd.prog 6 #[.slice A0 l.length c0] w fun e w' => ∃ (vb vp vo : Value) (bs : List El) (rs : List RelV), e = .returned (.tuple #[.agg #[vb, vp], vo]) ∧ ShapeAt w' w.heap.size (fun _ => False) vb vp vo bs (parsOf (l.take 6)) rs ∧ bs.map (·.2) = bagsOf (l.take 6) ∧ rs.map (·.2.2) = relsOf (l.take 6) ∧ Below w.heap.size w w' := by
  have HR0 := Aside0.mk hr0
  have hm0 : l.length ≤ 9223372036854775807 := Kd.C_max hr0
  clear hr0 hc0
  go_enter Tryd.func6, Tryd.ntmps6
  go_wp2
  go_loopw [5, 6] (fun v5 i wr => ∃ (k : Nat) (vb vp : Value) (bs : List El) (rs : List RelV), k ≤ l.length ∧ k ≤ 6 ∧ i = .int .i64 k ∧ Aside0 (wr.heap[w.heap.size]? = some (.cells #[.slice none 0 0, .slice none 0 0] 27 (0, 0))) ∧ Aside0 (wr.heap[w.heap.size + 1]? = some (.cells #[vb, vp] 27 (0, 0))) ∧
      Aside0 (ShapeAt wr w.heap.size (fun k => k = w.heap.size ∨ k = w.heap.size + 1) vb vp v5 bs (parsOf (l.take k)) rs) ∧ Aside0 (bs.map (·.2) = bagsOf (l.take k)) ∧ Aside0 (rs.map (·.2.2) = relsOf (l.take k)) ∧ Aside0 (Below w.heap.size w wr)) (fun _ i _ => l.length - (intOf i).toNat)
  case atStart =>
    refine ⟨0, .slice none 0 0, .slice none 0 0, [], [], Nat.zero_le _, Nat.zero_le _, rfl, aside0 (blk_alloc (heap_alloc_new w _) _), aside0 ?_, aside0 (ShapeAt.start _ _ _), aside0 rfl, aside0 rfl, aside0 (((Below.refl _ _).alloc (Nat.le_refl _) _).alloc (by simp) _)⟩
    have := heap_alloc_new (w.alloc (.cells #[.slice none 0 0, .slice none 0 0] 27)) (.cells #[.slice none 0 0, .slice none 0 0] 27)
    simpa using this
  case round =>
    obtain ⟨i, vb, vp, bs, rs, hi, hi6, rfl, HRES, HTB, HSH, HBS, HRS, HB⟩ := hrel
    obtain ⟨wo, rfl⟩ : ∃ wo : World, wo = wr := ⟨_, rfl⟩
    by_cases hlt : i < l.length ∧ i < 6
    · obtain ⟨h1, h2⟩ := hlt
      have hd1 : decide ((i : Int) < (l.length : Int)) = true := decide_eq_true (by omega)
      have hd2 : decide ((i : Int) < 6) = true := decide_eq_true (by omega)
      have hd3 : decide (i < l.length) = true := decide_eq_true h1
      have hj0 : (0 : Int) ≤ (i : Int) := by omega
      have hj1 : (i : Int) < (l.length : Int) := by omega
      obtain ⟨ad, A1, c1, A2, c2, e1, hx0, hx1, hx2, hc1, hC1, hc2, hC2⟩ := at_T41 HR0.out (i : Int) hj0 hj1
      subst e1
      rw [Int.toNat_natCast] at hx0 hx1 hx2
      replace hx0 := (HB.out.cell (World.block_lt_of_cell? w _ hx0)).trans hx0
      replace hx1 := (HB.out.cell (World.block_lt_of_cell? w _ hx1)).trans hx1
      replace hx2 := (HB.out.cell (World.block_lt_of_cell? w _ hx2)).trans hx2
      have HTK := Aside0.mk (show l.take (i + 1) = l.take i ++ [rd_T41 l (i : Int)] from by rw [List.take_succ_eq_append_getElem h1]; simp [rd_T41, h1])
      generalize rd_T41 l (i : Int) = p at hx0 hx1 hx2 hc1 hC1 hc2 hC2 HTK
      have HC1 := Aside0.mk (And.intro (Kd.C_below hC1 HB.out) hc1)
      have HC2 := Aside0.mk (And.intro (Kd.C_below hC2 HB.out) hc2)
      have hml1 : p.f1.length ≤ 9223372036854775807 := Kd.C_max hC1
      have hml2 : p.f2.length ≤ 9223372036854775807 := Kd.C_max hC2
      clear hC1 hc1 hC2 hc2
      go_upto_block 2 with fail
      go_cut [7] (fun v7 wx => Aside0 (OwnEl wx wo.heap.size (v7, schemeL p.f1)) ∧ Aside0 (Below wo.heap.size wo wx))
      case first =>
        go_wp2
        go_loopw [7, 8] (fun v7 k wi => ∃ (j : Nat), j ≤ p.f1.length ∧ j ≤ 3 ∧ k = .int .i64 j ∧ Aside0 (OwnEl wi wo.heap.size (v7, sch (p.f1.take j))) ∧ Aside0 (Below wo.heap.size wo wi)) (fun _ k _ => p.f1.length - (intOf k).toNat)
        case atStart => exact ⟨0, Nat.zero_le _, Nat.zero_le _, rfl, aside0 (OwnEl.empty wo), aside0 ((Below.refl _ _).alloc (Nat.le_refl _) _)⟩
        case round =>
          obtain ⟨j, hj, hj3, rfl, HS, HBI⟩ := hrel
          have hx1' := (HBI.out.cell (World.block_lt_of_cell? wo _ hx1)).trans hx1
          by_cases g1 : j < p.f1.length
          · have hd4 : decide ((j : Int) < (p.f1.length : Int)) = true := decide_eq_true (by omega)
            have hd6 : decide (j < p.f1.length) = true := decide_eq_true g1
            by_cases g2 : j < 3
            · have hd5 : decide ((j : Int) < 3) = true := decide_eq_true (by omega)
              obtain ⟨ad2, e2, hx⟩ := at_int (Kd.C_below HC1.out.1 HBI.out) j g1
              subst e2
              have HTJ := Aside0.mk (show p.f1.take (j + 1) = p.f1.take j ++ [p.f1.getD j 0] from by rw [List.take_succ_eq_append_getElem g1, List.getD_eq_getElem?_getD, List.getElem?_eq_getElem g1]; rfl)
              generalize p.f1.getD j 0 = x at hx HTJ
              have hk0 : (0 : Int) ≤ (j : Int) := by omega
              have hk1 : (j : Int) < (p.f1.length : Int) := by omega
              have HSL := Aside0.mk (show (sch (p.f1.take j)).length ≤ 3 by have := sch_len (p.f1.take j); have := List.length_take_le j p.f1; omega)
              obtain ⟨As, cs, es, hls, hsC⟩ := HS.out.reads
              have es : u7 = .slice As (sch (p.f1.take j)).length cs := es
              subst es
              have HLS := Aside0.mk hls
              have HSC := Aside0.mk hsC
              clear hls hsC
              go_wp2_with fail
              rw [cut_tmod]
              refine (arboristref01_Unite.calls 20 As cs (sch (p.f1.take j)) (some ⟨wr.heap.size, 0, none⟩) 1 [cutI x 6] (uniteL (sch (p.f1.take j)) [cutI x 6]) _ (Kd.C_below HSC.out ((Below.refl _ _).alloc (Nat.le_refl _) _)) HLS.out (C_one _ _) (Nat.le_refl _) (Unite_eq _ _ (by have := HSL.out; simp; omega) 20 (by have := HSL.out; simp; omega))).mono ?_
              rintro e w2 ⟨v2, rfl, hv2, hb2⟩
              have HB2 := Aside0.mk (below_step ((Below.refl wr.heap.size wr).alloc (Nat.le_refl _) (.cells #[.int .i64 (cutI x 6)] 3)) hb2)
              have HV2 := Aside0.mk (OwnEl.of_R hv2)
              clear hv2 hb2
              go_wp2
              go_roundw
              case rel =>
                refine ⟨j + 1, by omega, by omega, by go_num, aside0 ?_, aside0 (below_step HBI.out HB2.out)⟩
                rw [HTJ.out, sch_snoc]
                exact HV2.out.lower (by have := HBI.out.size; simp; omega)
              case measure => simp [intOf]; omega
            · have hd5 : decide ((j : Int) < 3) = false := decide_eq_false (by omega)
              go_wp2
              go_meet
              have e3 : j = 3 := by omega
              subst e3
              exact ⟨HS, HBI⟩
          · have hd4 : decide ((j : Int) < (p.f1.length : Int)) = false := decide_eq_false (by omega)
            have hd6 : decide (j < p.f1.length) = false := decide_eq_false g1
            go_wp2
            go_meet
            refine ⟨aside0 ?_, HBI⟩
            have e3 : p.f1.take j = p.f1.take 3 := by rw [List.take_of_length_le (by omega), List.take_of_length_le (by omega)]
            unfold schemeL
            rw [← e3]
            exact HS.out
      case rest =>
        obtain ⟨HS, HBS1⟩ := hcut
        clear hx1
        have HSL := Aside0.mk (schemeL_len p.f1)
        obtain ⟨As, cs, es, hls, hsC⟩ := HS.out.reads
        have es : u7 = .slice As (schemeL p.f1).length cs := es
        subst es
        have HLS := Aside0.mk hls
        have HSC := Aside0.mk hsC
        have hsm : (schemeL p.f1).length ≤ 3 := HSL.out
        clear hls hsC
        obtain ⟨W1, rfl⟩ : ∃ W1 : World, W1 = wc := ⟨_, rfl⟩
        go_upto_block 4 with fail
        go_cut [9] (fun v9 wx => ∃ es : List El, Aside0 (RowsOwn wx W1.heap.size v9 es) ∧ Aside0 (es.map (·.2) = rowsL (schemeL p.f1).length p.f2) ∧ Aside0 (Below W1.heap.size W1 wx))
        case first =>
          go_wp2
          go_loopw [9, 10] (fun v9 k wi => ∃ (j : Nat) (es : List El), j ≤ p.f2.length ∧ j ≤ 12 ∧ k = .int .i64 j ∧ Aside0 (RowsOwn wi W1.heap.size v9 es) ∧ Aside0 (es.map (·.2) = (p.f2.take j).map (rowL (schemeL p.f1).length)) ∧ Aside0 (Below W1.heap.size W1 wi)) (fun _ k _ => p.f2.length - (intOf k).toNat)
          case atStart => exact ⟨0, [], Nat.zero_le _, Nat.zero_le _, rfl, aside0 (RowsOwn.empty W1), aside0 rfl, aside0 ((Below.refl _ _).alloc (Nat.le_refl _) _)⟩
          case round =>
            obtain ⟨j, es, hj, hj3, rfl, HRW, HES, HBI⟩ := hrel
            obtain ⟨w4, rfl⟩ : ∃ w4 : World, w4 = wr := ⟨_, rfl⟩
            have HB4 := Aside0.mk (below_step HBS1.out HBI.out)
            have hx2' := (HB4.out.cell (World.block_lt_of_cell? wo _ hx2)).trans hx2
            by_cases g1 : j < p.f2.length
            · have hd4 : decide ((j : Int) < (p.f2.length : Int)) = true := decide_eq_true (by omega)
              have hd6 : decide (j < p.f2.length) = true := decide_eq_true g1
              by_cases g2 : j < 12
              · have hd5 : decide ((j : Int) < 12) = true := decide_eq_true (by omega)
                obtain ⟨ad2, A3, c3, e2, hx, hl3, hC3⟩ := at_sl (Kd.C_below HC2.out.1 HB4.out) j g1
                subst e2
                have HTJ := Aside0.mk (show p.f2.take (j + 1) = p.f2.take j ++ [p.f2.getD j []] from by rw [List.take_succ_eq_append_getElem g1, List.getD_eq_getElem?_getD, List.getElem?_eq_getElem g1]; rfl)
                generalize p.f2.getD j [] = t at hx hl3 hC3 HTJ
                have HT3 := Aside0.mk (And.intro hl3 hC3)
                have hmt : t.length ≤ 9223372036854775807 := Kd.C_max hC3
                have hk0 : (0 : Int) ≤ (j : Int) := by omega
                have hk1 : (j : Int) < (p.f2.length : Int) := by omega
                have HEL := Aside0.mk (show es.length ≤ 12 by have h1 := congrArg List.length HES.out; have h2 := List.length_take_le j p.f2; simp at h1; omega)
                clear hl3 hC3
                have hmk : ∀ W : World, (Instr.makeSlice 25 (.int .i64 ((schemeL p.f1).length : Int)) (.int .i64 ((schemeL p.f1).length : Int))).run Tryd.prog W = .ok (.slice (some ⟨W.heap.size, 0, none⟩) (schemeL p.f1).length (schemeL p.f1).length) (W.alloc (.cells (madeCells #[.int .i64 0] (schemeL p.f1).length) 3)) := fun W => by
                  obtain ⟨i0, hi, hz0, hz1, hz2⟩ := info_parts info_int
                  have := run_make (P := Tryd.prog) W 25 3 i0 (.int .i64 0) Tryd.underlying25 hi hz0 .i64 .i64 (schemeL p.f1).length (schemeL p.f1).length (by omega) (by omega) (by rw [hz2]; omega) (by omega)
                  rw [hz1, Nat.mul_one, Int.toNat_natCast] at this
                  exact this
                go_upto_block 6 with fail
                clear hmk
                go_cut [] (fun wx => Aside0 (OwnEl wx w4.heap.size (.slice (some ⟨w4.heap.size, 0, none⟩) (schemeL p.f1).length (schemeL p.f1).length, rowL (schemeL p.f1).length t)) ∧ Aside0 (Below w4.heap.size w4 wx))
                case first =>
                  go_wp2
                  go_loopw [12] (fun q wi => ∃ m : Nat, m ≤ (schemeL p.f1).length ∧ m ≤ t.length ∧ q = .int .i64 m ∧ Aside0 (OwnEl wi w4.heap.size (.slice (some ⟨w4.heap.size, 0, none⟩) (schemeL p.f1).length (schemeL p.f1).length, rowPre (schemeL p.f1).length t m)) ∧ Aside0 (Below w4.heap.size w4 wi)) (fun q _ => (schemeL p.f1).length - (intOf q).toNat)
                  case atStart =>
                    refine ⟨0, Nat.zero_le _, Nat.zero_le _, rfl, aside0 ?_, aside0 ((Below.refl _ _).alloc (Nat.le_refl _) _)⟩
                    rw [rowPre_zero]
                    refine OwnEl.of_own ?_
                    have := own_made' w4 w4.heap.size 3 .i64 (schemeL p.f1).length (Nat.le_refl _) (by omega)
                    simpa [nums] using this
                  case round =>
                    obtain ⟨m, hm, hmt2, rfl, HROW, HBM⟩ := hrel
                    have hx2m := (HBM.out.cell (World.block_lt_of_cell? w4 _ hx2')).trans hx2'
                    have hxm := (HBM.out.cell (World.block_lt_of_cell? w4 _ hx)).trans hx
                    by_cases q1 : m < (schemeL p.f1).length
                    · have hd7 : decide ((m : Int) < ((schemeL p.f1).length : Int)) = true := decide_eq_true (by omega)
                      have hd8 : decide (m < (schemeL p.f1).length) = true := decide_eq_true q1
                      by_cases q2 : m < t.length
                      · have hd9 : decide ((m : Int) < (t.length : Int)) = true := decide_eq_true (by omega)
                        have hd10 : decide (m < t.length) = true := decide_eq_true q2
                        obtain ⟨ad3, e3, hxx⟩ := at_int (Kd.C_below HT3.out.2 HBM.out) m q2
                        subst e3
                        have HST := Aside0.mk (rowPre_step (schemeL p.f1).length t m q1 q2)
                        generalize t.getD m 0 = x at hxx HST
                        have hm0 : (0 : Int) ≤ (m : Int) := by omega
                        have hm1 : (m : Int) < (t.length : Int) := by omega
                        have hm2 : (m : Int) < ((schemeL p.f1).length : Int) := by omega
                        obtain ⟨hrc, hrf⟩ := own_cell HROW.out.own (j := m) (u := .int .i64 ((rowPre (schemeL p.f1).length t m).getD m 0)) (by rw [List.getElem?_map, List.getD_eq_getElem?_getD, List.getElem?_eq_getElem (by rw [len_rowPre]; exact q1)]; rfl)
                        clear hd1 hd2 hd3
                        go_wp2
                        rw [cut_tmod]
                        go_roundw
                        case rel =>
                          refine ⟨m + 1, by omega, by omega, by go_num, aside0 ?_, aside0 (HBM.out.setCell (Nat.le_refl _) _)⟩
                          have := Kd.R_putg (enc := Value.int .i64) HROW.out (m : Int) (cutI x 3)
                          rw [Int.toNat_natCast, HST.out] at this
                          exact this.1
                        case measure => simp [intOf]; omega
                      · have hd9 : decide ((m : Int) < (t.length : Int)) = false := decide_eq_false (by omega)
                        have hd10 : decide (m < t.length) = false := decide_eq_false q2
                        go_wp2
                        go_meet
                        exact ⟨by rw [← rowPre_done _ _ m (.inr (by omega))]; exact HROW, HBM⟩
                    · have hd7 : decide ((m : Int) < ((schemeL p.f1).length : Int)) = false := decide_eq_false (by omega)
                      have hd8 : decide (m < (schemeL p.f1).length) = false := decide_eq_false q1
                      go_wp2
                      go_meet
                      exact ⟨by rw [← rowPre_done _ _ m (.inl (by omega))]; exact HROW, HBM⟩
                case rest =>
                  obtain ⟨HROW, HBM⟩ := hcut
                  obtain ⟨i0, hi0, hz0, hz1, hz2⟩ := info_parts info_rows
                  have hel := HEL.out
                  go_wp2_with (at_builtin; go_loud (refine wpList_append_lies _ rfl (.tmp 106) (.tmp 108) 24 rfl W1.heap.size 25 i0 (.slice none 0 0) 1 24 Tryd.underlying24 hi0 hz0 hz1 hz2 rfl (by omega) u9 es.length (es.map (·.1)) rfl ((pw_own_below HRW.out.1 HBM.out).alloc _) ⟨wc.heap.size, 0, none⟩ 1 1 [.slice (some ⟨w4.heap.size, 0, none⟩) (schemeL p.f1).length (schemeL p.f1).length] rfl rfl (World.news_of_block (cs := #[.slice (some ⟨w4.heap.size, 0, none⟩) (schemeL p.f1).length (schemeL p.f1).length]) (t := 25) (fr := (0, 0)) (heap_alloc_new wc _)) (by simp [Value.oneCell']) (by omega) (by simp only [maxLen]; omega) (by omega) (by have := HBI.out.size; have := HBM.out.size; simp; omega) (wc.heap.size + 1) (by simp) ?_); intro gg cap w6 hown6 hgr6 hat6 hlt6; have HO6 := Aside0.mk hown6; have HG6 := Aside0.mk hgr6; clear hown6 hgr6 hat6 hlt6)
                  go_roundw
                  case rel =>
                    have hb5 : Below w4.heap.size w4 (wc.alloc (.cells #[.slice (some ⟨w4.heap.size, 0, none⟩) (schemeL p.f1).length (schemeL p.f1).length] 25)) := below_step HBM.out ((Below.refl _ _).alloc (Nat.le_refl _) _)
                    have hown5 : OwnEl (wc.alloc (.cells #[.slice (some ⟨w4.heap.size, 0, none⟩) (schemeL p.f1).length (schemeL p.f1).length] 25)) W1.heap.size (.slice (some ⟨w4.heap.size, 0, none⟩) (schemeL p.f1).length (schemeL p.f1).length, rowL (schemeL p.f1).length t) := (HROW.out.below ((Below.refl _ _).alloc (Nat.le_refl _) _)).lower HBI.out.size
                    have hpush := (HRW.out.below hb5).push hown5 (fun k hk q hq e => by
                      have h2 := (HRW.out.2.1 q hq).lt e
                      injection hk with hk
                      have hk : w4.heap.size = k := hk
                      omega) HO6.out HG6.out
                    refine ⟨j + 1, _, by omega, by omega, by go_num, aside0 (by simpa using hpush), aside0 ?_, aside0 ?_⟩
                    · rw [HTJ.out]; simp [HES.out]
                    · exact pw_below_grown (below_step HBI.out hb5) _ (below_step HBI.out hb5).size HG6.out (fun k hk => own_base HRW.out.1 k hk)
                  case measure => simp [intOf]; omega
              · have hd5 : decide ((j : Int) < 12) = false := decide_eq_false (by omega)
                go_wp2
                go_meet
                have e3 : j = 12 := by omega
                subst e3
                exact ⟨es, HRW, HES, HBI⟩
            · have hd4 : decide ((j : Int) < (p.f2.length : Int)) = false := decide_eq_false (by omega)
              have hd6 : decide (j < p.f2.length) = false := decide_eq_false g1
              go_wp2
              go_meet
              refine ⟨es, HRW, aside0 ?_, HBI⟩
              have e3 : p.f2.take j = p.f2.take 12 := by rw [List.take_of_length_le (by omega), List.take_of_length_le (by omega)]
              unfold rowsL
              rw [← e3]
              exact HES.out
        case rest =>
          obtain ⟨es, HRW, HES, HBR⟩ := hcut
          obtain ⟨W2, rfl⟩ : ∃ W2 : World, W2 = wc := ⟨_, rfl⟩
          have HB2 := Aside0.mk (below_step HBS1.out HBR.out)
          have hx0' := (HB2.out.cell (World.block_lt_of_cell? wo _ hx0)).trans hx0
          go_upto_if 111 with fail
          go_cut [13] (fun v13 wx => v13 = .int .i64 (parL i p) ∧ wx = W2)
          case first =>
            by_cases hz : i = 0
            · subst hz
              go_wp2
              go_meet
              exact ⟨rfl, rfl⟩
            · have hz1 : decide ((0 : Int) < (i : Int)) = true := decide_eq_true (by omega)
              have hz2 : decide (0 < i) = true := decide_eq_true (by omega)
              have hz3 : ((i : Int) == 0) = false := by simpa using hz
              have hz4 : decide ((i : Int) = 0) = false := decide_eq_false (by omega)
              have hz5 : decide (i = 0) = false := decide_eq_false hz
              have hpe : parL i p = cutI p.f0 i := if_neg hz
              have HPE := Aside0.mk hpe
              clear hpe
              go_wp2
              go_meet
              refine ⟨?_, rfl⟩
              rw [HPE.out, cut_tmod]
          case rest =>
            obtain ⟨rfl, rfl⟩ := hcut
            obtain ⟨R, hR⟩ : ∃ R, rowsL (schemeL p.f1).length p.f2 = R := ⟨_, rfl⟩
            have HRN := Aside0.mk (show R.length ≤ 12 by rw [← hR]; have := List.length_take_le 12 p.f2; simp only [rowsL, List.length_map]; omega)
            have HRB := Aside0.mk (show ∀ t ∈ R, t.length ≤ 3 from fun t ht => by
              rw [← hR] at ht
              obtain ⟨q, _, rfl⟩ := List.mem_map.1 ht
              rw [len_rowL]; exact HSL.out)
            have HRR := Aside0.mk hR
            have hEN : es.length = R.length := by have := congrArg List.length HES.out; rw [hR] at this; simpa using this
            obtain ⟨Ar, cr, er, hlr, hrC⟩ := HRW.out.reads
            rw [HES.out, hR, hEN] at hrC
            rw [hEN] at er hlr
            subst er
            have HRC := Aside0.mk (And.intro hrC hlr)
            clear hrC hlr hEN hR
            have hbl : bs.length = i := by
              have h3 := congrArg List.length HBS.out
              simp only [bagsOf, List.length_map, List.length_take] at h3
              omega
            have hrl : rs.length = i := by
              have h3 := congrArg List.length HRS.out
              simp only [relsOf, List.length_map, List.length_take] at h3
              omega
            have hpl : (parsOf (l.take i)).length = i := by rw [parsOf_len, List.length_take]; omega
            have HLN := Aside0.mk (And.intro hbl (And.intro hrl hpl))
            clear hbl hrl hpl
            have HSH2 := Aside0.mk (HSH.out.below HB2.out)
            have HTB2 := Aside0.mk (blk_below HTB.out HB2.out)
            have hta := (blk_cell HTB2.out 0).trans rfl
            have HSX := Aside0.mk (show ∀ k, (Value.slice As (schemeL p.f1).length cs).ownBlock = some k → wo.heap.size ≤ k ∧ k < W1.heap.size from fun k hk => ⟨own_base HS.out.own k hk, HS.out.lt hk⟩)
            have HS2 := Aside0.mk (HS.out.below HBR.out)
            obtain ⟨i0, hi0, hz0, hz1, hz2⟩ := info_parts info_rows
            go_upto_region 25 with (at_builtin; go_loud (refine wpList_append_lies _ rfl (.tmp 121) (.tmp 123) 24 rfl w.heap.size 25 i0 (.slice none 0 0) 1 24 Tryd.underlying24 hi0 hz0 hz1 hz2 rfl (by omega) vb bs.length (bs.map (·.1)) rfl (HSH2.out.bag.alloc _) ⟨wc.heap.size, 0, none⟩ 1 1 [.slice As (schemeL p.f1).length cs] rfl rfl (World.news_of_block (cs := #[.slice As (schemeL p.f1).length cs]) (t := 25) (fr := (0, 0)) (heap_alloc_new wc _)) (by simp [Value.oneCell']) (by omega) (by have := HLN.out.1; simp only [maxLen]; omega) (by have := HLN.out.1; omega) (by have := HB.out.size; have := HB2.out.size; simp; omega) (wc.heap.size + 1) (by simp) ?_); intro g6 cap6 w6 hown6 hgr6 hat6 hlt6; have HO6 := Aside0.mk (And.intro hown6 (And.intro hgr6 hat6)); have HTB6 := Aside0.mk (blk_grown (blk_alloc HTB2.out _) hgr6 (own_ne HSH2.out.bag HTB2.out (by decide))); have hca6 := (blk_cell HTB6.out 0).trans rfl; have hfa6 := blk_frozen HTB6.out 0; clear hown6 hgr6 hat6 hlt6)
            have SH7 : Aside0 (ShapeAt (w6.setCell ⟨w.heap.size + 1, 0, none⟩ (.slice (some ⟨g6, 0, none⟩) (bs.length + 1) cap6)) w.heap.size (fun k => k = w.heap.size ∨ k = w.heap.size + 1) (.slice (some ⟨g6, 0, none⟩) (bs.length + 1) cap6) vp u5 (bs ++ [(.slice As (schemeL p.f1).length cs, schemeL p.f1)]) (parsOf (l.take i)) rs) := ⟨by
              have s5 := HSH2.out.below ((Below.refl wc.heap.size wc).alloc (Nat.le_refl _) (.cells #[.slice As (schemeL p.f1).length cs] 25))
              have s6 := s5.pushBag (HS2.out.below ((Below.refl wc.heap.size wc).alloc (Nat.le_refl _) (.cells #[.slice As (schemeL p.f1).length cs] 25))) (fun k hk => by
                obtain ⟨k1, k2⟩ := HSX.out k hk
                have hb := blk_lt HTB.out
                refine ⟨fun ht => by rcases ht with ht | ht <;> omega, fun e => ?_, fun e => ?_, fun e => ?_⟩
                · have := own_lt HSH.out.bag k e; omega
                · have := own_lt HSH.out.par k e; omega
                · have := own_lt HSH.out.rel k e; omega) HO6.out.1 HO6.out.2.1 HO6.out.2.2 (by simp)
              exact s6.away (.inr rfl) HTB6.out (by decide) (by decide) (by decide) (grown_setCell _ _ _ _)⟩
            have HTB7 := Aside0.mk (blk_put HTB6.out 0 (.slice (some ⟨g6, 0, none⟩) (bs.length + 1) cap6) rfl)
            have hcp7 := (blk_cell HTB7.out 1).trans rfl
            have HB7 : Aside0 (Below w.heap.size w (w6.setCell ⟨w.heap.size + 1, 0, none⟩ (.slice (some ⟨g6, 0, none⟩) (bs.length + 1) cap6)) ∧ wc.heap.size ≤ w6.heap.size) := ⟨by
              have hb5 := (below_step HB.out HB2.out).alloc (below_step HB.out HB2.out).size (.cells #[.slice As (schemeL p.f1).length cs] 25)
              exact (pw_below_grown hb5 _ hb5.size HO6.out.2.1 (fun k hk => own_base HSH2.out.bag k hk)).setCell (by simp) _, by have := HO6.out.2.1.size; simp at this; omega⟩
            have HRES7 := Aside0.mk (blk_grown (blk_grown (blk_alloc (blk_below HRES.out HB2.out) (.cells #[.slice As (schemeL p.f1).length cs] 25)) HO6.out.2.1 (own_ne HSH2.out.bag (blk_below HRES.out HB2.out) (by decide))) (grown_setCell w6 (w.heap.size + 1) 0 (.slice (some ⟨g6, 0, none⟩) (bs.length + 1) cap6)) (fun e => by injection e; omega))
            have HVB := Aside0.mk (show (∀ k, vb.ownBlock = some k → k < wo.heap.size) ∧ (∀ k, vp.ownBlock = some k → k < wo.heap.size) ∧ (∀ k, u5.ownBlock = some k → k < wo.heap.size) ∧ wo.heap.size ≤ W1.heap.size ∧ w.heap.size + 1 < wo.heap.size from ⟨own_lt HSH.out.bag, own_lt HSH.out.par, own_lt HSH.out.rel, HBS1.out.size, blk_lt HTB.out⟩)
            have HRC7 := Aside0.mk (((HRW.out.below ((Below.refl wc.heap.size wc).alloc (Nat.le_refl _) (.cells #[.slice As (schemeL p.f1).length cs] 25))).elder HO6.out.2.1 (fun k hk => by have := HVB.out.1 k hk; have := HVB.out.2.2.2.1; omega)).older (grown_setCell w6 (w.heap.size + 1) 0 (.slice (some ⟨g6, 0, none⟩) (bs.length + 1) cap6)) (by have := HVB.out.2.2.2; omega))
            have HS7 := Aside0.mk (((HS2.out.below ((Below.refl wc.heap.size wc).alloc (Nat.le_refl _) (.cells #[.slice As (schemeL p.f1).length cs] 25))).elder HO6.out.2.1 HVB.out.1).older (grown_setCell w6 (w.heap.size + 1) 0 (.slice (some ⟨g6, 0, none⟩) (bs.length + 1) cap6)) (by have := HVB.out.2.2.2; omega))
            have HG6 := Aside0.mk (show ∀ k, k < wc.heap.size → vb.ownBlock ≠ some k → (Value.slice (some ⟨g6, 0, none⟩) (bs.length + 1) cap6).ownBlock ≠ some k from fun k hk hv => hat_ne HO6.out.2.2 (by omega : wc.heap.size ≤ wc.heap.size + 1) hk hv)
            have HSZ7 := Aside0.mk (show wc.heap.size ≤ (w6.setCell ⟨w.heap.size + 1, 0, none⟩ (.slice (some ⟨g6, 0, none⟩) (bs.length + 1) cap6)).heap.size by have := HB7.out.2; simp [World.setCell]; exact this)
            have HBW7 := Aside0.mk HB7.out.1
            clear HO6 HTB6 hca6 hfa6 HB7
            generalize w6.setCell ⟨w.heap.size + 1, 0, none⟩ (.slice (some ⟨g6, 0, none⟩) (bs.length + 1) cap6) = W7 at SH7 HTB7 hcp7 HRES7 HRC7 HS7 HSZ7 HBW7 ⊢
            generalize (Value.slice (some ⟨g6, 0, none⟩) (bs.length + 1) cap6) = vb' at SH7 HTB7 hcp7 HG6 ⊢
            obtain ⟨i1, hi1, hy0, hy1, hy2⟩ := info_parts info_int
            go_upto_region 26 with (at_builtin; go_loud (refine wpList_append_lies _ rfl (.tmp 127) (.tmp 129) 25 rfl w.heap.size 3 i1 (.int .i64 0) 1 8 Tryd.underlying25 hi1 hy0 hy1 hy2 rfl (by omega) vp (parsOf (l.take i)).length ((parsOf (l.take i)).map (Value.int .i64)) rfl (SH7.out.par.alloc _) ⟨W7.heap.size, 0, none⟩ 1 1 [.int .i64 (parL i p)] rfl rfl (World.news_of_block (cs := #[.int .i64 (parL i p)]) (t := 3) (fr := (0, 0)) (heap_alloc_new W7 _)) (by simp [Value.oneCell']) (by omega) (by have := HLN.out.2.2; simp only [maxLen]; omega) (by have := HLN.out.2.2; omega) (by have := HBW7.out.size; simp; omega) (W7.heap.size + 1) (by simp) ?_); intro g9 cap9 w9 hown9 hgr9 hat9 hlt9; have HO9 := Aside0.mk (And.intro hown9 (And.intro hgr9 hat9)); have HTB9 := Aside0.mk (blk_grown (blk_alloc HTB7.out _) hgr9 (own_ne SH7.out.par HTB7.out (by decide))); have hca9 := (blk_cell HTB9.out 1).trans rfl; have hfa9 := blk_frozen HTB9.out 1; clear hown9 hgr9 hat9 hlt9)
            have SH10 : Aside0 (ShapeAt (w9.setCell ⟨w.heap.size + 1, 1, none⟩ (.slice (some ⟨g9, 0, none⟩) ((parsOf (l.take i)).length + 1) cap9)) w.heap.size (fun k => k = w.heap.size ∨ k = w.heap.size + 1) vb' (.slice (some ⟨g9, 0, none⟩) ((parsOf (l.take i)).length + 1) cap9) u5 (bs ++ [(.slice As (schemeL p.f1).length cs, schemeL p.f1)]) (parsOf (l.take i) ++ [parL i p]) rs) :=
              ⟨((SH7.out.below ((Below.refl W7.heap.size W7).alloc (Nat.le_refl _) (.cells #[.int .i64 (parL i p)] 3))).pushPar HO9.out.1 HO9.out.2.1 HO9.out.2.2 (by simp)).away (.inr rfl) HTB9.out (by decide) (by decide) (by decide) (grown_setCell _ _ _ _)⟩
            have HTB10 := Aside0.mk (blk_put HTB9.out 1 (.slice (some ⟨g9, 0, none⟩) ((parsOf (l.take i)).length + 1) cap9) rfl)
            have HRES10 := Aside0.mk (blk_grown (blk_grown (blk_alloc HRES7.out (.cells #[.int .i64 (parL i p)] 3)) HO9.out.2.1 (own_ne SH7.out.par HRES7.out (by decide))) (grown_setCell w9 (w.heap.size + 1) 1 (.slice (some ⟨g9, 0, none⟩) ((parsOf (l.take i)).length + 1) cap9)) (fun e => by injection e; omega))
            have HRC10 := Aside0.mk (((HRC7.out.below ((Below.refl W7.heap.size W7).alloc (Nat.le_refl _) (.cells #[.int .i64 (parL i p)] 3))).elder HO9.out.2.1 (fun k hk => by have := HVB.out.2.1 k hk; have := HVB.out.2.2.2.1; omega)).older (grown_setCell w9 (w.heap.size + 1) 1 (.slice (some ⟨g9, 0, none⟩) ((parsOf (l.take i)).length + 1) cap9)) (by have := HVB.out.2.2.2; omega))
            have HS10 := Aside0.mk (((HS7.out.below ((Below.refl W7.heap.size W7).alloc (Nat.le_refl _) (.cells #[.int .i64 (parL i p)] 3))).elder HO9.out.2.1 HVB.out.2.1).older (grown_setCell w9 (w.heap.size + 1) 1 (.slice (some ⟨g9, 0, none⟩) ((parsOf (l.take i)).length + 1) cap9)) (by have := HVB.out.2.2.2; omega))
            have HG9 := Aside0.mk (show ∀ k, k < wc.heap.size → vp.ownBlock ≠ some k → (Value.slice (some ⟨g9, 0, none⟩) ((parsOf (l.take i)).length + 1) cap9).ownBlock ≠ some k from fun k hk hv => hat_ne HO9.out.2.2 (by have := HSZ7.out; omega : wc.heap.size ≤ W7.heap.size + 1) hk hv)
            have HBW10 : Aside0 (Below w.heap.size w (w9.setCell ⟨w.heap.size + 1, 1, none⟩ (.slice (some ⟨g9, 0, none⟩) ((parsOf (l.take i)).length + 1) cap9))) := ⟨by
              have hb5 := HBW7.out.alloc HBW7.out.size (.cells #[.int .i64 (parL i p)] 3)
              exact (pw_below_grown hb5 _ hb5.size HO9.out.2.1 (fun k hk => own_base SH7.out.par k hk)).setCell (by simp) _⟩
            have HSZ10 := Aside0.mk (show wc.heap.size ≤ (w9.setCell ⟨w.heap.size + 1, 1, none⟩ (.slice (some ⟨g9, 0, none⟩) ((parsOf (l.take i)).length + 1) cap9)).heap.size by have h1 := HO9.out.2.1.size; have h2 := HSZ7.out; simp at h1; simp [World.setCell]; omega)
            clear HO9 HTB9 hca9 hfa9 hcp7 hta
            generalize w9.setCell ⟨w.heap.size + 1, 1, none⟩ (.slice (some ⟨g9, 0, none⟩) ((parsOf (l.take i)).length + 1) cap9) = W10 at SH10 HTB10 HRES10 HRC10 HS10 HBW10 HSZ10 ⊢
            generalize (Value.slice (some ⟨g9, 0, none⟩) ((parsOf (l.take i)).length + 1) cap9) = vp' at SH10 HTB10 HG9 ⊢
            go_wp2_with fail
            obtain ⟨A', c', e', hl', hC'⟩ := HRC10.out.reads
            injection e' with e1 e2 e3
            subst e1 e3
            rw [HES.out, HRR.out, ← e2] at hC'
            refine (arboristref01_Sort.calls (R.length * (R.length + 4) + 2 * 3 + 7) Ar cr R (sortU R) _ hC' HRC.out.2 (Sort_eq R 3 HRB.out (by omega) (by have := HRN.out; omega))).mono ?_
            rintro e w11 ⟨v11, rfl, hv11, hb11⟩
            obtain ⟨A11, c11, e11⟩ := Kd.N_slice hv11
            subst e11
            have HY := Aside0.mk (rows_onBlocks hv11)
            have HN11 := Aside0.mk hv11
            have HB11 := Aside0.mk hb11
            have SH11 := Aside0.mk (SH10.out.below hb11)
            have HS11 := Aside0.mk (HS10.out.below hb11)
            clear hv11 hb11 hC' hl' e2
            obtain ⟨i2, hi2, hu0, hu1, hu2⟩ := info_parts info_rel
            go_wp2_with (at_builtin; go_loud (refine wpList_append_lies _ rfl (.tmp 132) (.tmp 137) 28 rfl w.heap.size 36 i2 (.agg #[.slice none 0 0, .slice none 0 0]) 2 48 Tryd.underlying28 hi2 hu0 hu1 hu2 rfl (by omega) u5 rs.length (relCells rs) rfl (SH11.out.rel.alloc _) ⟨w11.heap.size, 0, none⟩ 1 1 [.slice As (schemeL p.f1).length cs, .slice A11 (sortU R).length c11] rfl rfl (World.news_of_block (cs := #[.slice As (schemeL p.f1).length cs, .slice A11 (sortU R).length c11]) (t := 36) (fr := (0, 0)) (heap_alloc_new w11 _)) (by simp [Value.oneCell']) (by omega) (by have := HLN.out.2.1; simp only [maxLen]; omega) (by have := HLN.out.2.1; omega) (by have := HBW10.out.size; have := HB11.out.size; simp; omega) (w11.heap.size + 1) (by simp) ?_); intro g13 cap13 w13 hown13 hgr13 hat13 hlt13; have HO13 := Aside0.mk (And.intro hown13 (And.intro hgr13 hat13)); clear hown13 hgr13 hat13 hlt13)
            go_roundw
            case rel =>
              have hal : Below w11.heap.size w11 (w11.alloc (.cells #[.slice As (schemeL p.f1).length cs, .slice A11 (sortU R).length c11] 36)) := (Below.refl _ _).alloc (Nat.le_refl _) _
              have hf : (relL p).f1 = sortU R := by unfold relL; rw [HRR.out]
              have hti : l.take (i + 1) = l.take i ++ [p] := HTK.out
              have hlen : (l.take i).length = i := by rw [List.length_take]; omega
              have h0 := HVB.out
              have h9 := HSZ10.out
              have h8 := HB11.out.size
              have h7 := HBR.out.size
              have h6 := HB2.out.size
              have hsh := (SH11.out.below hal).pushRel (r := (.slice As (schemeL p.f1).length cs, .slice A11 (sortU R).length c11, relL p)) (HS11.out.below hal) (fun k hk => by
                  obtain ⟨k1, k2⟩ := HSX.out k hk
                  refine ⟨fun ht => by rcases ht with ht | ht <;> omega, HG6.out k (by omega) (fun e => by have := h0.1 k e; omega), HG9.out k (by omega) (fun e => by have := h0.2.1 k e; omega), fun e => by have := h0.2.2.1 k e; omega⟩)
                (Y := fun k => W10.heap.size ≤ k ∧ k < w11.heap.size) (by rw [hf]; exact HY.out.below (fun k hk => hk.2) hal) (fun k hk => by
                  obtain ⟨k1, k2⟩ := hk
                  refine ⟨by simp; omega, fun ht => by rcases ht with ht | ht <;> omega, fun e => ?_, fun e => ?_, fun e => ?_⟩
                  · have := own_lt SH10.out.bag k e; omega
                  · have := own_lt SH10.out.par k e; omega
                  · have := own_lt SH10.out.rel k e; omega) HO13.out.1 HO13.out.2.1 HO13.out.2.2 (by simp)
              refine ⟨i + 1, vb', vp', bs ++ [(.slice As (schemeL p.f1).length cs, schemeL p.f1)], rs ++ [(.slice As (schemeL p.f1).length cs, .slice A11 (sortU R).length c11, relL p)], by omega, by omega, by go_num, aside0 ?_, aside0 ?_, aside0 ?_, aside0 ?_, aside0 ?_, aside0 ?_⟩
              rotate_left 2
              · rw [hti, parsOf_snoc, hlen]
                exact hsh
              · rw [hti]; simp [HBS.out, bagsOf]
              · rw [hti]; simp [HRS.out, relsOf]
              · have hb12 := (below_step HBW10.out HB11.out).alloc (below_step HBW10.out HB11.out).size (.cells #[.slice As (schemeL p.f1).length cs, .slice A11 (sortU R).length c11] 36)
                exact pw_below_grown hb12 _ hb12.size HO13.out.2.1 (fun k hk => own_base SH11.out.rel k hk)
              · exact blk_grown (blk_alloc (blk_below HRES10.out HB11.out) _) HO13.out.2.1 (own_ne SH11.out.rel (blk_below HRES10.out HB11.out) (by decide))
              · exact blk_grown (blk_alloc (blk_below HTB10.out HB11.out) _) HO13.out.2.1 (own_ne SH11.out.rel (blk_below HTB10.out HB11.out) (by decide))
            case measure => simp [intOf]; omega
    · have HTI := Aside0.mk (show l.take i = l.take 6 from by
        by_cases h1 : i < l.length
        · rw [show i = 6 by omega]
        · rw [List.take_of_length_le (by omega), List.take_of_length_le (by omega)])
      have hta := (blk_cell HTB.out 0).trans rfl
      have htb := (blk_cell HTB.out 1).trans rfl
      have hra := (blk_cell HRES.out 0).trans rfl
      have hrb := (blk_cell HRES.out 1).trans rfl
      have hrc := blk_frozen HRES.out 0
      have hrd := blk_frozen HRES.out 1
      obtain ⟨Ab, cb, eb⟩ := own_slice HSH.out.bag
      obtain ⟨Ap, cp, ep⟩ := own_slice HSH.out.par
      subst eb ep
      have hp1 := blk_put HRES.out 0 (.slice Ab bs.length cb) rfl
      have hp2 := blk_put hp1 1 (.slice Ap (parsOf (l.take i)).length cp) rfl
      have HP1 := Aside0.mk hp1
      have HP2 := Aside0.mk hp2
      have HEND : Aside0 (ShapeAt ((wo.setCell ⟨w.heap.size, 0, none⟩ (.slice Ab bs.length cb)).setCell ⟨w.heap.size, 1, none⟩ (.slice Ap (parsOf (l.take i)).length cp)) w.heap.size (fun _ => False) (.slice Ab bs.length cb) (.slice Ap (parsOf (l.take i)).length cp) u5 bs (parsOf (l.take i)) rs) :=
        ⟨((HSH.out.away (.inl rfl) HRES.out (by decide) (by decide) (by decide) (grown_setCell _ _ _ _)).away (.inl rfl) hp1 (by decide) (by decide) (by decide) (grown_setCell _ _ _ _)).mono (fun k hk => hk.elim)⟩
      have HBE := Aside0.mk ((HB.out.setCell (p := ⟨w.heap.size, 0, none⟩) (Nat.le_refl _) (.slice Ab bs.length cb)).setCell (p := ⟨w.heap.size, 1, none⟩) (Nat.le_refl _) (.slice Ap (parsOf (l.take i)).length cp))
      clear hp1 hp2
      have hfin : ∀ (a : Act) (W : World), True := fun _ _ => trivial
      by_cases h1 : i < l.length
      · have hd1 : decide ((i : Int) < (l.length : Int)) = true := decide_eq_true (by omega)
        have hd3 : decide (i < l.length) = true := decide_eq_true h1
        have hd2 : decide ((i : Int) < 6) = false := decide_eq_false (by omega)
        go_wp2
        have hya := (blk_cell HP2.out 0).trans rfl
        have hyb := (blk_cell HP2.out 1).trans rfl
        refine bodyPost_ret (v := .tuple #[.agg #[.slice Ab bs.length cb, .slice Ap (parsOf (l.take i)).length cp], u5]) (by simp [results, Tryd.results6, go_sem, hya, hyb]) rfl ?_
        rw [← HTI.out]
        exact ⟨_, _, _, bs, rs, rfl, HEND.out, HBS.out, HRS.out, HBE.out⟩
      · have hd1 : decide ((i : Int) < (l.length : Int)) = false := decide_eq_false (by omega)
        have hd3 : decide (i < l.length) = false := decide_eq_false h1
        go_wp2
        have hya := (blk_cell HP2.out 0).trans rfl
        have hyb := (blk_cell HP2.out 1).trans rfl
        refine bodyPost_ret (v := .tuple #[.agg #[.slice Ab bs.length cb, .slice Ap (parsOf (l.take i)).length cp], u5]) (by simp [results, Tryd.results6, go_sem, hya, hyb]) rfl ?_
        rw [← HTI.out]
        exact ⟨_, _, _, bs, rs, rfl, HEND.out, HBS.out, HRS.out, HBE.out⟩

end Go.Proofs.YtgejnljpdfjgpaaDoor.Q
/- pass.Reduce: up, then down. Its conditions: those of both. -/
namespace Go.Proofs.YtgejnljpdfjgpaaDoor.Q
open Go.RowKit Go.Proofs Go.Proofs.YtgejnljpdfjgpaaDoorW.PrintWords Go.Proofs.YtgejnljpdfjgpaaDoorW.PrintLast Go.Proofs.YtgejnljpdfjgpaaDoorW.PrintMore
set_option linter.unusedVariables false
set_option linter.unusedSimpArgs false

set_option maxHeartbeats 2000000 in
set_option maxRecDepth 100000 in
theorem pass_Reduce.calls (kf kr : Nat) (A0 : Option Addr) (c0 : Nat) (bags : List (List Int)) (A1 : Option Addr) (c1 : Nat) (par : List Int) (A2 : Option Addr) (c2 : Nat) (xs : List S36) (L0 L : List Int) (w : World)
    (hr0 : Kd.C (Kd.slice 3 (Kd.int .i64)) w A0 bags.length bags) (hc0 : bags.length ≤ c0) (hr1 : Kd.C (Kd.int .i64) w A1 par.length par) (hc1 : par.length ≤ c1) (hr2 : Kd.C k36 w A2 xs.length xs)
    (hlen : xs.length = bags.length) (hl : xs.length < 1073741824) (hL0 : place_After.f kf bags par = some L0) (hL : slices_Reverse_int_int.f kr L0 = some L) (hLi0 : ∀ i ∈ L0, 0 ≤ i ∧ i < par.length) (hLi : ∀ i ∈ L, 0 ≤ i ∧ i < par.length)
    (hst0 : ∀ s ∈ stepsOf par L0, 0 ≤ s.1 ∧ s.1.toNat < xs.length ∧ 0 ≤ s.2 ∧ s.2.toNat < xs.length) (hst : ∀ s ∈ stepsOf par L, 0 ≤ s.1 ∧ s.1.toNat < xs.length ∧ 0 ≤ s.2 ∧ s.2.toNat < xs.length)
    (hgood : ∀ x ∈ xs, RelGood x) (hT : TabOk w) :
    Calls Tryd.prog 7 #[.agg #[.slice A0 bags.length c0, .slice A1 par.length c1], .slice A2 xs.length c2] w fun e w' => ∃ (g : Nat) (rs : List RelEl), e = .returned (.tuple #[.slice (some ⟨g, 0, none⟩) xs.length xs.length, .int .i64 0]) ∧ RelsAt w' w.heap.size g rs ∧ rs.map relOf = downL (upL xs (stepsOf par L0)) (stepsOf par L) ∧ Below w.heap.size w w' := by
  obtain ⟨hgo, hln⟩ := upL_good (stepsOf par L0) hgood (fun s hs => (hst0 s hs).2.2.2)
  have HU := Aside0.mk (fun (W : World) (hW : Below w.heap.size w W) => pass_Up.calls kf kr A0 c0 bags A1 c1 par A2 c2 xs L0 L0 W (Kd.C_below hr0 hW) hc0 (Kd.C_below hr1 hW) hc1 (Kd.C_below hr2 hW) hlen hl hL0 rfl hLi0 hst0 hgood (hT.on hW))
  have HD := Aside0.mk (fun (W : World) (hW : Below w.heap.size w W) (g : Nat) (rs : List RelEl) (base : Nat) (hrs : RelsAt W base g rs) (hmp : rs.map relOf = upL xs (stepsOf par L0)) => by
    have hrl : rs.length = (upL xs (stepsOf par L0)).length := by have := congrArg List.length hmp; simpa using this
    have hC := hrs.reads
    rw [hmp, hrl] at hC
    have := pass_Down.calls kf kr A0 c0 bags A1 c1 par (some ⟨g, 0, none⟩) xs.length (upL xs (stepsOf par L0)) L0 L W (Kd.C_below hr0 hW) hc0 (Kd.C_below hr1 hW) hc1 hC (hln.trans hlen) (by rw [hln]; exact hl) hL0 hL hLi (by rw [hln]; exact hst) hgo (hT.on hW)
    rw [hln] at this
    exact this)
  clear hr0 hc0 hr1 hc1 hr2 hlen hl hL0 hL hLi0 hLi hst0 hst hgood hT hgo hln
  go_enter Tryd.func7, Tryd.ntmps7
  go_wp2_with fail
  have hb0 : Below w.heap.size w (w.alloc (.cells #[.slice A0 bags.length c0, .slice A1 par.length c1] 27)) := (Below.refl _ _).alloc (Nat.le_refl _) _
  refine (HU.out _ hb0).mono ?_
  rintro e w1 ⟨g, rs, rfl, hrs, hmp, hb1⟩
  have htr := blk_below (heap_alloc_new w (.cells #[.slice A0 bags.length c0, .slice A1 par.length c1] 27)) hb1
  have hta := (blk_cell htr 0).trans rfl
  have htb := (blk_cell htr 1).trans rfl
  have HB1 := Aside0.mk (below_step hb0 hb1)
  have HRS := Aside0.mk hrs
  have HMP := Aside0.mk hmp
  clear hb0 hb1 hrs hmp htr
  go_wp2_with fail
  refine (HD.out w1 HB1.out g rs _ HRS.out HMP.out).mono ?_
  rintro e w2 ⟨g2, rs2, rfl, hrs2, hmp2, hb2⟩
  have H2 := Aside0.mk (And.intro hrs2 (And.intro hmp2 hb2))
  clear hrs2 hmp2 hb2
  go_wp2
  go_ret2
  exact ⟨g2, rs2, rfl, H2.out.1.lower HB1.out.size, H2.out.2.1, below_step HB1.out H2.out.2.2⟩

end Go.Proofs.YtgejnljpdfjgpaaDoor.Q
