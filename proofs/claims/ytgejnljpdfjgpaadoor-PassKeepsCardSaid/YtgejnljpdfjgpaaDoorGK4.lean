/- A part of the proof of this claim (part 4 of 16): contracts of callees and plain facts, each with its own conditions before its statement. -/
import Derived.Deep.DrawnRows
import Derived.Deep.Cut
import Derived.Deep.DeepCutAuto
import Derived.Deep.RegionLaw
import Derived.Maps.Range
import Derived.Shelf.SlicesE.Compact
import Derived.Lib.SlKept
import Derived.Sort.WalkA
import Derived.Test.YtgejnljpdfjgpaaDoorGK1
import Derived.Test.YtgejnljpdfjgpaaDoorGK2
import Derived.Test.YtgejnljpdfjgpaaDoorGK3
set_option linter.unusedVariables false
set_option linter.unusedSimpArgs false
/- join.Semijoin: the rows of the one that agree with some row of the other one. Its conditions: both are read at the call; sizes; the rows' numbers are int64's; strconv's table reads as it was laid. -/
namespace Go.Proofs.YtgejnljpdfjgpaaDoor.Q
open Go.RowKit Go.Proofs Go.Proofs.YtgejnljpdfjgpaaDoorW.PrintWords Go.Proofs.YtgejnljpdfjgpaaDoorW.PrintLast Go.Proofs.YtgejnljpdfjgpaaDoorW.PrintMore
set_option linter.unusedVariables false
set_option linter.unusedSimpArgs false

/-- What two schemes share. -/
def meetL (a b : List Int) : List Int := mergeL false true false a b
def semiL (sA : List Int) (rA : List (List Int)) (sB : List Int) (rB : List (List Int)) : List (List Int) :=
  rA.filter fun t => rB.any fun u => decide (pickL u (placesL sB (meetL sA sB)) = pickL t (placesL sA (meetL sA sB)))

/-- Rows that the call owns. -/
def RowsOwn (W : World) (base : Nat) (v : Value) (es : List El) : Prop :=
  W.ownsRow base 25 1 v es.length (es.map (·.1)) ∧ (∀ p ∈ es, OwnEl W base p) ∧ ApartEl es

theorem RowsOwn.nil (W : World) (base : Nat) : RowsOwn W base (.slice none 0 0) [] := ⟨World.ownsRow_nil _ _ _ _, ⟨fun p h => absurd h (List.not_mem_nil), fun i j p q h => by simp at h⟩⟩
theorem RowsOwn.below {W W' : World} {base : Nat} {v : Value} {es : List El} (h : RowsOwn W base v es) (hb : Below W.heap.size W W') : RowsOwn W' base v es :=
  ⟨pw_own_below h.1 hb, fun p hp => (h.2.1 p hp).below hb, h.2.2⟩
/-- The rows live on where no block of theirs turns. -/
theorem RowsOwn.step {W W' : World} {base g : Nat} {v : Value} {es : List El} {cur : Array Value} {t : TypeId} (h : RowsOwn W base v es) (hg : W.heap[g]? = some (.cells cur t (0, 0))) (ht : t ≠ 3) (ht2 : t ≠ 25) (hs : ∀ k, k < W.heap.size → k ≠ g → W'.heap[k]? = W.heap[k]?) : RowsOwn W' base v es := by
  refine ⟨⟨h.1.1, ?_⟩, fun p hp => (h.2.1 p hp).step hg ht hs, h.2.2⟩
  rcases h.1.2 with h0 | ⟨g1, cap, c1, e, hge, hb, h3⟩
  · exact .inl h0
  · refine .inr ⟨g1, cap, c1, e, hge, ?_, h3⟩
    rw [hs g1 (Array.getElem?_eq_some_iff.1 hb).1 (fun e => ?_), hb]
    subst e
    rw [hg] at hb
    injection hb with hb
    injection hb with _ hb
    exact ht2 hb
theorem RowsOwn.lower {W : World} {b base : Nat} {v : Value} {es : List El} (h : RowsOwn W b v es) (hle : base ≤ b) : RowsOwn W base v es := ⟨own_less h.1 hle, fun p hp => Kd.R_lower (h.2.1 p hp) hle, h.2.2⟩
/-- Another row of the call's own. -/
theorem RowsOwn.push {W W1 : World} {base : Nat} {v v1 : Value} {es : List El} {p : El} (h : RowsOwn W base v es) (hp : OwnEl W base p) (hap : ∀ k, p.1.ownBlock = some k → ∀ q ∈ es, q.1.ownBlock ≠ some k)
    (ho : W1.ownsRow base 25 1 v1 (es.length + 1) (es.map (·.1) ++ [p.1])) (hg : W.grownBy W1 v.ownBlock) : RowsOwn W1 base v1 (es ++ [p]) := by
  have hne : ∀ g, v.ownBlock = some g → ∀ cells, W.heap[g]? ≠ some (.cells cells 3 (0, 0)) := fun g hgg cells hc => by
    obtain ⟨cl, hcl⟩ := own_typed h.1 g hgg
    rw [hc] at hcl
    injection hcl with hcl
    injection hcl with _ hcl
    exact absurd hcl (by decide)
  refine ⟨by simpa using ho, fun q hq => ?_, ?_⟩
  · rcases List.mem_append.1 hq with hq | hq
    · exact (h.2.1 q hq).grown hg hne
    · rw [List.mem_singleton.1 hq]; exact hp.grown hg hne
  · intro i j a b ha hb hij k hk hk2
    have hsz : ∀ (m : Nat) (x : El), (es ++ [p])[m]? = some x → m = es.length ∧ x = p ∨ m < es.length ∧ es[m]? = some x := fun m x hx => by
      by_cases hm : m < es.length
      · exact .inr ⟨hm, by rwa [List.getElem?_append_left hm] at hx⟩
      · rw [List.getElem?_append_right (by omega)] at hx
        by_cases hm2 : m - es.length = 0
        · rw [hm2] at hx
          exact .inl ⟨by omega, (Option.some.inj hx).symm⟩
        · rw [List.getElem?_eq_none (by simp; omega)] at hx
          cases hx
    rcases hsz i a ha with ⟨rfl, rfl⟩ | ⟨hi, ha⟩ <;> rcases hsz j b hb with ⟨rfl, rfl⟩ | ⟨hj, hb⟩
    · exact hij rfl
    · exact hap k hk b (List.mem_of_getElem? (by assumption)) hk2
    · exact hap k hk2 a (List.mem_of_getElem? (by assumption)) hk
    · exact h.2.2 i j a b ha hb hij k hk hk2

theorem keyed_any (vs : List Value) (rows : List (List Int)) (pl t ps : List Int) (hvs : vs.length = rows.length) :
    decide ((0 : Int) < ((grp (keyed_rows vs rows pl) (keyB (pickL t ps))).length : Int)) = rows.any fun u => decide (pickL u pl = pickL t ps) := by
  have hmem : ∀ u : List Int, keyB (pickL u pl) = keyB (pickL t ps) ↔ pickL u pl = pickL t ps := fun u => ⟨keyB_inj, fun h => by rw [h]⟩
  rw [Bool.eq_iff_iff, decide_eq_true_iff, List.any_eq_true]
  constructor
  · intro h
    have h : 0 < (grp (keyed_rows vs rows pl) (keyB (pickL t ps))).length := by omega
    obtain ⟨v, hv⟩ := List.exists_mem_of_length_pos h
    unfold grp at hv
    obtain ⟨p, hp, _⟩ := List.mem_map.1 hv
    obtain ⟨hp, hpk⟩ := List.mem_filter.1 hp
    unfold keyed_rows at hp
    obtain ⟨q, hq, rfl⟩ := List.mem_map.1 hp
    have hqr := (List.of_mem_zip hq).2
    exact ⟨q.2, hqr, decide_eq_true ((hmem _).1 (by simpa using hpk))⟩
  · rintro ⟨u, hu, he⟩
    obtain ⟨i, hi, rfl⟩ := List.getElem_of_mem hu
    have hz : (vs[i]'(by omega), rows[i]) ∈ vs.zip rows := by
      have : (vs.zip rows)[i]'(by simp; omega) = (vs[i]'(by omega), rows[i]) := by simp
      rw [← this]; exact List.getElem_mem _
    have hg : vs[i]'(by omega) ∈ grp (keyed_rows vs rows pl) (keyB (pickL t ps)) := by
      unfold grp
      refine List.mem_map.2 ⟨(vs[i]'(by omega), keyB (pickL rows[i] pl)), List.mem_filter.2 ⟨List.mem_map.2 ⟨_, hz, rfl⟩, ?_⟩, rfl⟩
      simpa using (hmem _).2 (of_decide_eq_true he)
    have := List.length_pos_of_mem hg
    omega


theorem mergeL_len (f b s : Bool) (l m : List Int) : (mergeL f b s l m).length ≤ l.length + m.length := by
  fun_induction mergeL f b s l m <;> simp_all <;> (try split) <;> (try simp) <;> omega
theorem meetL_len (a b : List Int) : (meetL a b).length ≤ a.length + b.length := mergeL_len _ _ _ _ _

theorem OwnEl.lower {W : World} {b base : Nat} {p : El} (h : OwnEl W b p) (hle : base ≤ b) : OwnEl W base p := Kd.R_lower h hle
theorem GroupsAt.lower {W : World} {b0 base b n : Nat} {rs : List (Value × List UInt8)} (h : GroupsAt W b0 b n rs) (hle : base ≤ b0) : GroupsAt W base b n rs := by
  obtain ⟨h1, m, h2, h3, h4⟩ := h
  exact ⟨Nat.le_trans hle h1, m, h2, fun l => own_less (h3 l) hle, h4⟩
/-- A block of no rows and no map turned. -/
def RelBlk (W : World) (ob : Nat) : Prop := ∀ o, W.heap[ob]? = some o → ∃ cs, o = .cells cs 36 (0, 0)
theorem RelBlk.of {W : World} {ob : Nat} {cs : Array Value} (h : W.heap[ob]? = some (.cells cs 36 (0, 0))) : RelBlk W ob := fun o ho => ⟨cs, by rw [h] at ho; exact (Option.some.inj ho).symm⟩
theorem RelBlk.new (W : World) : RelBlk W W.heap.size := fun o ho => by rw [Array.getElem?_eq_none (Nat.le_refl _)] at ho; cases ho
theorem OwnEl.apart {W W' : World} {base ob : Nat} {p : El} (h : OwnEl W base p) (hg : W.grownBy W' (some ob)) (hr : RelBlk W ob) : OwnEl W' base p :=
  h.grown hg (fun g hgg cells hc => by
    cases hgg
    obtain ⟨cs, e⟩ := hr _ hc
    injection e with _ e
    exact absurd e (by decide))
theorem GroupsAt.apart {W W' : World} {base b n ob : Nat} {rs : List (Value × List UInt8)} (h : GroupsAt W base b n rs) (hg : W.grownBy W' (some ob)) (hr : RelBlk W ob) : GroupsAt W' base b n rs := by
  obtain ⟨h1, m, h2, h3, h4⟩ := h
  refine ⟨h1, m, h2.kept hg (fun e => ?_), fun l => own_other (h3 l) hg ?_, h4⟩
  · cases e
    obtain ⟨es, c, hbm⟩ := h2.obj
    obtain ⟨cs, e⟩ := hr _ hbm
    cases e
  · right
    intro e
    obtain ⟨cl, hcl⟩ := own_typed (h3 l) ob e
    obtain ⟨cs, e⟩ := hr _ hcl
    injection e with _ e
    exact absurd e (by decide)
theorem grown_setCell (W : World) (ob i : Nat) (u : Value) : W.grownBy (W.setCell ⟨ob, i, none⟩ u) (some ob) := by
  refine ⟨rfl, rfl, rfl, by simp [World.setCell], fun k hk hne => Below.heap_setCell _ _ _ _ (fun e => hne (by rw [e]))⟩

theorem RowVals.below {w w' : World} {A : Option Addr} {rows : List (List Int)} {vs : List Value} (h : RowVals w A rows vs) (hb : Below w.heap.size w w') : RowVals w' A rows vs :=
  ⟨h.1, fun j hj => by
    obtain ⟨ad, A', c', e, hc, hv, hl, hC⟩ := h.2 j hj
    exact ⟨ad, A', c', e, (hb.cell (World.block_lt_of_cell? w _ hc)).trans hc, hv, hl, Kd.C_below hC hb⟩⟩

theorem info_rel : (Tryd.prog.info? 36).map (fun i => (i.zero, i.size, i.bytes)) = some (some (.agg #[.slice none 0 0, .slice none 0 0]), 2, 48) := by kernel_rfl

set_option maxHeartbeats 1000000 in
set_option maxRecDepth 100000 in
theorem join_Semijoin.calls (A0 : Option Addr) (c0 : Nat) (sA : List Int) (A1 : Option Addr) (c1 : Nat) (rA : List (List Int)) (A2 : Option Addr) (c2 : Nat) (sB : List Int) (A3 : Option Addr) (c3 : Nat) (rB : List (List Int)) (w : World)
    (hr0 : Kd.C (Kd.int .i64) w A0 sA.length sA) (hc0 : sA.length ≤ c0) (hr1 : Kd.C (Kd.slice 3 (Kd.int .i64)) w A1 rA.length rA) (hr2 : Kd.C (Kd.int .i64) w A2 sB.length sB) (hc2 : sB.length ≤ c2) (hr3 : Kd.C (Kd.slice 3 (Kd.int .i64)) w A3 rB.length rB)
    (hl0 : sA.length < 17179869184) (hl1 : rA.length < 1099511627776) (hl2 : sB.length < 17179869184) (hl3 : rB.length < 1099511627776) (hlA : ∀ t ∈ rA, t.length < 17592186044416) (h64A : ∀ t ∈ rA, ∀ n ∈ t, in64 n) (h64 : ∀ t ∈ rB, ∀ n ∈ t, in64 n) (hT : TabOk w) :
    Calls Tryd.prog 19 #[.agg #[.slice A0 sA.length c0, .slice A1 rA.length c1], .agg #[.slice A2 sB.length c2, .slice A3 rB.length c3]] w fun e w' => ∃ (v1 v2 : Value) (es : List El), e = .returned (.agg #[v1, v2]) ∧ OwnEl w' w.heap.size (v1, sA) ∧ RowsOwn w' w.heap.size v2 es ∧ es.map (·.2) = semiL sA rA sB rB ∧ Below w.heap.size w w' := by
  have HR0 := Aside0.mk hr0
  have HC0 := Aside0.mk hc0
  have HR1 := Aside0.mk hr1
  have HR2 := Aside0.mk hr2
  have HC2 := Aside0.mk hc2
  have HR3 := Aside0.mk hr3
  have HL0 := Aside0.mk hl0
  have HL1 := Aside0.mk hl1
  have HL2 := Aside0.mk hl2
  have HL3 := Aside0.mk hl3
  have HLA := Aside0.mk hlA
  have H64A := Aside0.mk h64A
  have H64 := Aside0.mk h64
  have HT := Aside0.mk hT
  clear hr0 hc0 hr1 hr2 hc2 hr3 hl0 hl1 hl2 hl3 h64 h64A hT hlA
  go_enter Tryd.func19, Tryd.ntmps19
  go_wp2_with fail
  have hb0 : Below w.heap.size w (((w.alloc (.cells #[.slice A0 sA.length c0, .slice A1 rA.length c1] 36)).alloc (.cells #[.slice A2 sB.length c2, .slice A3 rB.length c3] 36)).alloc (.cells #[.slice none 0 0, .slice none 0 0] 36)) :=
    (((Below.refl _ _).alloc (Nat.le_refl _) _).alloc (by simp) _).alloc (by simp; omega) _
  have hm : tuple_Meet.f sA sB = some (meetL sA sB) := by
    unfold tuple_Meet.f tuple_merge.f
    rw [if_pos (by have := HL0.out; have := HL2.out; omega)]
    rfl
  refine (tuple_Meet.calls A0 c0 sA A2 c2 sB _ _ (Kd.C_below HR0.out hb0) HC0.out (Kd.C_below HR2.out hb0) HC2.out hm).mono ?_
  rintro e w1 ⟨vm, rfl, hvm, hb1⟩
  have hA : w1.heap[w.heap.size]? = some (.cells #[.slice A0 sA.length c0, .slice A1 rA.length c1] 36 (0, 0)) := (hb1.block _ (by simp; omega)).trans (blk_alloc (blk_alloc (heap_alloc_new w _) _) _)
  have hB : w1.heap[w.heap.size + 1]? = some (.cells #[.slice A2 sB.length c2, .slice A3 rB.length c3] 36 (0, 0)) := (hb1.block _ (by simp)).trans (blk_alloc (by have := heap_alloc_new (w.alloc (.cells #[.slice A0 sA.length c0, .slice A1 rA.length c1] 36)) (.cells #[.slice A2 sB.length c2, .slice A3 rB.length c3] 36); simpa using this) _)
  have hO : w1.heap[w.heap.size + 2]? = some (.cells #[.slice none 0 0, .slice none 0 0] 36 (0, 0)) := (hb1.block _ (by simp)).trans (by have := heap_alloc_new ((w.alloc (.cells #[.slice A0 sA.length c0, .slice A1 rA.length c1] 36)).alloc (.cells #[.slice A2 sB.length c2, .slice A3 rB.length c3] 36)) (.cells #[.slice none 0 0, .slice none 0 0] 36); simpa using this)
  have HB1 := Aside0.mk (below_step hb0 hb1)
  have HM1 := Aside0.mk (OwnEl.of_R (Kd.R_lower hvm hb0.size))
  have HML := Aside0.mk (meetL_len sA sB)
  have HA := Aside0.mk hA
  have HBB := Aside0.mk hB
  have HO := Aside0.mk hO
  clear hb0 hb1 hvm hA hB hO hm
  obtain ⟨Am, cm, em, hml, hmC⟩ := HM1.out.reads
  have em : vm = .slice Am (meetL sA sB).length cm := em
  subst em
  have HMC := Aside0.mk hmC
  have HMLE := Aside0.mk hml
  clear hml hmC
  go_upto_region 2 with fail
  go_cut [6, 7, 8] (fun v6 v7 v8 wx => ∃ (m ob : Nat) (vs : Value) (rs : List Value), v7 = .map (some m) ∧ v8 = .pointer (some ⟨ob, 0, none⟩) ∧ Aside0 (OwnEl wx w.heap.size (v6, placesL sA (meetL sA sB))) ∧ Aside0 (rs.length = rB.length) ∧ Aside0 (GroupsAt wx w.heap.size m rB.length (keyed_rows rs rB (placesL sB (meetL sA sB)))) ∧
    Aside0 (wx.heap[ob]? = some (.cells #[vs, .slice none 0 0] 36 (0, 0))) ∧ Aside0 (w1.heap.size ≤ ob) ∧ Aside0 (OwnEl wx w.heap.size (vs, sA)) ∧ Aside0 (Below w.heap.size w wx) ∧ Aside0 (Below w1.heap.size w1 wx))
  clear em
  case first =>
    have XS : Aside0 (∀ W, Below w1.heap.size w1 W → W.cell? ⟨w.heap.size, 0, none⟩ = some (.slice A0 sA.length c0) ∧ W.cell? ⟨w.heap.size + 1, 0, none⟩ = some (.slice A2 sB.length c2) ∧ W.cell? ⟨w.heap.size + 1, 1, none⟩ = some (.slice A3 rB.length c3) ∧ Aside0 (Below w1.heap.size w1 W)) :=
      ⟨fun W h => by
        have hA := (h.block _ (Array.getElem?_eq_some_iff.1 HA.out).1).trans HA.out
        have hB := (h.block _ (Array.getElem?_eq_some_iff.1 HBB.out).1).trans HBB.out
        exact ⟨(blk_cell hA 0).trans rfl, (blk_cell hB 0).trans rfl, (blk_cell hB 1).trans rfl, ⟨h⟩⟩⟩
    obtain ⟨rs, hrs⟩ := rowVals HR3.out
    have HRS := Aside0.mk hrs
    have HRL := Aside0.mk hrs.1
    have HPL := Aside0.mk (show (placesL sA (meetL sA sB)).length = (meetL sA sB).length from by simp [placesL])
    clear hrs
    go_region_held3 (fun w' => w'.cell? ⟨w.heap.size, 0, none⟩ = some (.slice A0 sA.length c0) ∧ w'.cell? ⟨w.heap.size + 1, 0, none⟩ = some (.slice A2 sB.length c2) ∧ w'.cell? ⟨w.heap.size + 1, 1, none⟩ = some (.slice A3 rB.length c3) ∧ Aside0 (Below w1.heap.size w1 w'))
      ((refine XS.out _ ?_; go_split_ands; first | exact below_drew (Below.refl _ _) | exact (hk4.out.setCell (by first | exact hk3.out.size | exact hk2.out.size | exact Nat.le_refl _) _).setCell (by first | exact hk3.out.size | exact hk2.out.size | exact Nat.le_refl _) _ | exact hk4.out | exact hk3.out | exact hk2.out | exact ‹Aside0 (Below w1.heap.size w1 _)›.out.alloc ‹Aside0 (Below w1.heap.size w1 _)›.out.size _))
      (first
        | (go_at_call 31; go_split_ands; refine (join_places.calls _ A0 c0 sA Am cm (meetL sA sB) _ _ (Kd.C_below HR0.out (below_step HB1.out ‹Aside0 (Below w1.heap.size w1 _)›.out)) HC0.out (Kd.C_below HMC.out ‹Aside0 (Below w1.heap.size w1 _)›.out) HMLE.out (join_places_eq _ _ (by have := HL0.out; omega) (by have := HML.out; have := HL0.out; have := HL2.out; omega))).mono ?_; rintro e w2 ⟨vat, rfl, hat, hb2⟩; have hat := Aside0.mk (OwnEl.of_R hat); have hk2 := Aside0.mk (below_step ‹Aside0 (Below w1.heap.size w1 _)›.out hb2); (try have hz2 := Aside0.mk (show w2.heap[w1.heap.size]? = some (.cells #[.slice none 0 0, .slice none 0 0] 36 (0, 0)) from blk_below (blk_drew (heap_alloc_new _ _)) hb2)))
        | (go_at_call 32; go_split_ands; refine (join_index.calls A2 c2 sB A3 c3 rB Am cm (meetL sA sB) rs _ (Kd.C_below HR2.out (below_step HB1.out ‹Aside0 (Below w1.heap.size w1 _)›.out)) HC2.out (HRS.out.below (below_step HB1.out ‹Aside0 (Below w1.heap.size w1 _)›.out)) (Kd.C_below HMC.out ‹Aside0 (Below w1.heap.size w1 _)›.out) HMLE.out HL3.out (by have := HML.out; have := HL0.out; have := HL2.out; omega) H64.out (HT.out.on (below_step HB1.out ‹Aside0 (Below w1.heap.size w1 _)›.out))).mono ?_; rintro e w3 ⟨m, rfl, hm3, hb3⟩; (first | have hat3 := Aside0.mk (hat.out.below hb3) | have hat3 := Aside0.mk (hat.out.below (below_step ((Below.refl _ _).alloc (Nat.le_refl _) _) hb3))); have hk3 := Aside0.mk (below_step ‹Aside0 (Below w1.heap.size w1 _)›.out hb3); (first | have hz3 := Aside0.mk (blk_below (heap_alloc_new _ _) hb3) | have hz3 := Aside0.mk (blk_below hz2.out hb3) | skip))
        | (go_at_call 29; go_split_ands; refine (slices_Clone_int_int.calls A0 c0 sA sA _ (Kd.C_below HR0.out (below_step HB1.out ‹Aside0 (Below w1.heap.size w1 _)›.out)) HC0.out (by unfold slices_Clone_int_int.f; rw [if_pos (by have := HL0.out; omega)])).mono ?_; rintro e w4 ⟨vs, rfl, hvs, hb4⟩; (first | have hat4 := Aside0.mk (hat3.out.below hb4) | have hat4 := Aside0.mk (hat3.out.below (below_step ((Below.refl _ _).alloc (Nat.le_refl _) _) hb4))); (first | have hm4 := Aside0.mk (hm3.below hb4) | have hm4 := Aside0.mk (hm3.below (below_step ((Below.refl _ _).alloc (Nat.le_refl _) _) hb4))); have hk4 := Aside0.mk (below_step ‹Aside0 (Below w1.heap.size w1 _)›.out hb4); (first | have hz4 := Aside0.mk (blk_below (heap_alloc_new _ _) hb4) | have hz4 := Aside0.mk (blk_below hz3.out hb4) | skip); (try have hza := (blk_cell hz4.out 0).trans rfl); (try have hzb := (blk_cell hz4.out 1).trans rfl); (try have hzc := blk_frozen hz4.out 0); (try have hzd := blk_frozen hz4.out 1); have hvs := Aside0.mk (OwnEl.of_R hvs); obtain ⟨As, cs, evs, hls, hsC⟩ := hvs.out.reads; have evs : vs = .slice As sA.length cs := evs; subst evs; clear hls hsC))
    all_goals go_split_ands
    all_goals (go_wp2_with fail; go_meet)
    all_goals refine ⟨m, _, .slice As sA.length cs, rs, rfl, rfl, ?_, HRL, ?_, ?_, ?_, ?_, aside0 (below_step HB1.out (Aside0.out ‹_›)), by assumption⟩
    all_goals first
      | exact aside0 ((hat4.out.lower (by first | exact HB1.out.size | exact HB1.out.size.trans hk2.out.size | exact HB1.out.size.trans hk3.out.size | (have h1 := HB1.out.size; have h2 := hk2.out.size; have h3 := hk3.out.size; simp; omega))).apart (by (first | exact World.grownBy_alloc _ _ _ | exact (grown_setCell _ _ _ _).trans (grown_setCell _ _ _ _))) (by (first | exact RelBlk.of hz4.out | exact RelBlk.new _)))
      | exact aside0 ((hm4.out.lower (by first | exact HB1.out.size | exact HB1.out.size.trans hk2.out.size | exact HB1.out.size.trans hk3.out.size | (have h1 := HB1.out.size; have h2 := hk2.out.size; have h3 := hk3.out.size; simp; omega))).apart (by (first | exact World.grownBy_alloc _ _ _ | exact (grown_setCell _ _ _ _).trans (grown_setCell _ _ _ _))) (by (first | exact RelBlk.of hz4.out | exact RelBlk.new _)))
      | exact aside0 ((hvs.out.lower (by first | exact HB1.out.size | exact HB1.out.size.trans hk2.out.size | exact HB1.out.size.trans hk3.out.size | (have h1 := HB1.out.size; have h2 := hk2.out.size; have h3 := hk3.out.size; simp; omega))).apart (by (first | exact World.grownBy_alloc _ _ _ | exact (grown_setCell _ _ _ _).trans (grown_setCell _ _ _ _))) (by (first | exact RelBlk.of hz4.out | exact RelBlk.new _)))
      | exact aside0 (heap_alloc_new _ _)
      | exact aside0 (blk_put (blk_put hz4.out 0 _ rfl) 1 _ rfl)
      | exact aside0 (Nat.le_refl _)
      | exact aside0 hk2.out.size
      | exact aside0 hk3.out.size
      | exact aside0 hk4.out.size
  case rest =>
    clear em
    obtain ⟨m, ob, vs, rs, rfl, rfl, HAT, HRL, HG, HOB, HLO, HVS, HBW, HB12⟩ := hcut
    have hA1 : wc.cell? ⟨w.heap.size, 1, none⟩ = some (.slice A1 rA.length c1) := (blk_cell (blk_below HA.out HB12.out) 1).trans rfl
    obtain ⟨Aat, cat, eat, hatl, hatC⟩ := HAT.out.reads
    have eat : u6 = .slice Aat (placesL sA (meetL sA sB)).length cat := eat
    subst eat
    clear hatC
    have HATL := Aside0.mk hatl
    clear hatl
    go_wp2
    go_loopw [30] (fun i wr => ∃ (k : Nat) (v2 : Value) (es : List El), k ≤ rA.length ∧ i = .int .i64 k ∧ Aside0 (es.length ≤ k) ∧ Aside0 (es.map (·.2) = semiL sA (rA.take k) sB rB) ∧ Aside0 (wr.heap[ob]? = some (.cells #[vs, v2] 36 (0, 0))) ∧ Aside0 (RowsOwn wr wc.heap.size v2 es) ∧ Aside0 (wc.grownBy wr (some ob))) (fun i _ => rA.length - (intOf i).toNat)
    case atStart => exact ⟨0, _, [], Nat.zero_le _, rfl, aside0 (Nat.le_refl _), aside0 rfl, HOB, aside0 (RowsOwn.nil _ _), aside0 (World.grownBy.refl _ _)⟩
    case round =>
      clear hA1
      obtain ⟨k, v2, es, hk, rfl, HEL, HES, HOBR, HRW, HGR⟩ := hrel
      have hbr : Below w1.heap.size w1 wr := pw_below_grown HB12.out (some ob) HB12.out.size HGR.out (fun k hk => by cases hk; exact HLO.out)
      have HBR1 := Aside0.mk hbr
      have HBR := Aside0.mk (below_step HB1.out hbr)
      have HRB := Aside0.mk (RelBlk.of HOB.out)
      have HATR := Aside0.mk (HAT.out.apart HGR.out HRB.out)
      have HGRR := Aside0.mk (HG.out.apart HGR.out HRB.out)
      clear hbr
      have hl1 := HL1.out
      by_cases hlt : k < rA.length
      · have hd : decide ((k : Int) < (rA.length : Int)) = true := decide_eq_true (by omega)
        have hd2 : decide (k < rA.length) = true := decide_eq_true hlt
        obtain ⟨ad, A', c', e1, hx, hcl, hC⟩ := at_sl HR1.out k hlt
        subst e1
        replace hx := (HBR.out.cell (World.block_lt_of_cell? w _ hx)).trans hx
        have HN := Aside0.mk (h64k H64A.out hlt)
        have HLT := Aside0.mk (show (rA.getD k []).length < 17592186044416 from by rw [List.getD_eq_getElem?_getD, List.getElem?_eq_getElem hlt]; exact HLA.out _ (List.getElem_mem hlt))
        have HCC := Aside0.mk (Kd.C_below hC HBR.out)
        have HCL := Aside0.mk hcl
        have HTK := Aside0.mk (show rA.take (k + 1) = rA.take k ++ [rA.getD k []] from by rw [List.take_succ_eq_append_getElem hlt, List.getD_eq_getElem?_getD, List.getElem?_eq_getElem hlt]; rfl)
        generalize hy : rA.getD k [] = y at hx HN HCC HCL HTK HLT
        clear hy hcl hC
        obtain ⟨Aa, ca, e2, hal, haC⟩ := HATR.out.reads
        have e2 : Value.slice Aat (placesL sA (meetL sA sB)).length cat = .slice Aa (placesL sA (meetL sA sB)).length ca := e2
        injection e2 with e2 _ e3
        subst e2 e3
        have HAC := Aside0.mk haC
        have hpl : (placesL sA (meetL sA sB)).length = (meetL sA sB).length := by simp [placesL]
        have HPLE := Aside0.mk (show (placesL sA (meetL sA sB)).length < 34359738368 by have := HML.out; have := HL0.out; have := HL2.out; omega)
        have HPK := Aside0.mk (show tuple_Pick.f y (placesL sA (meetL sA sB)) = some (pickL y (placesL sA (meetL sA sB))) from by unfold tuple_Pick.f; rw [if_pos (by have := HPLE.out; omega)])
        clear hal haC hpl
        go_wp2_with fail
        refine (tuple_Pick.calls A' c' y Aat cat (placesL sA (meetL sA sB)) _ _ HCC.out HCL.out HAC.out HATL.out HPK.out).mono ?_
        rintro e w2 ⟨vp, rfl, hp, hb2⟩
        obtain ⟨Ap, cp, rfl, hpl2, hpC⟩ := Kd.R_reads hp
        have HPC := Aside0.mk hpC
        have HKL := Aside0.mk (pickL_len y (placesL sA (meetL sA sB)))
        have HN2 := Aside0.mk (show ∀ n ∈ pickL y (placesL sA (meetL sA sB)), in64 n from fun n hn => HN.out n (mem_pickL hn))
        have HKB := Aside0.mk (keyB_len (pickL y (placesL sA (meetL sA sB))) HN2.out)
        have HB2 := Aside0.mk hb2
        clear hpC hpl2 hp hb2
        go_wp2_with fail
        refine (join_key.calls Ap cp (pickL y (placesL sA (meetL sA sB))) _ HPC.out (by have := HKL.out; have := HPLE.out; omega) HN2.out (HT.out.on (below_step HBR.out HB2.out))).mono ?_
        rintro e w3 ⟨rfl, hb3⟩
        have HB3 := Aside0.mk (below_step HB2.out hb3)
        have HG3 := Aside0.mk ((HGRR.out.below HB2.out).below hb3)
        have hlen : (keyB (pickL y (placesL sA (meetL sA sB)))).length ≤ maxLen := by have := HKB.out; have := HKL.out; have := HPLE.out; simp only [maxLen]; omega
        obtain ⟨mm, hm, ho, hap⟩ := HG3.out.map
        obtain ⟨Ag, cg, eg⟩ := own_slice (ho (keyB (pickL y (placesL sA (meetL sA sB)))))
        have hlook := hm.look _ hlen
        rw [eg] at hlook
        have HKA := Aside0.mk (keyed_any rs rB (placesL sB (meetL sA sB)) y (placesL sA (meetL sA sB)) HRL.out)
        generalize hN : (grp (keyed_rows rs rB (placesL sB (meetL sA sB))) (keyB (pickL y (placesL sA (meetL sA sB))))).length = N at hlook HKA
        generalize hq : pickL y (placesL sA (meetL sA sB)) = q at hlook
        clear hN hq hm ho hap eg hlen HKB HKL HN2 HB2 HPC HPK mm
        have HB3' := Aside0.mk (below_step HBR.out HB3.out)
        have hobr3 : w3.heap[ob]? = some (.cells #[vs, v2] 36 (0, 0)) := blk_below HOBR.out HB3.out
        have HOB3 := Aside0.mk hobr3
        clear hobr3
        have hs1 : ∀ b, decide ((0 : Int) < (N : Int)) = b → Aside0 (semiL sA (rA.take (k + 1)) sB rB = semiL sA (rA.take k) sB rB ++ if b then [y] else []) := fun b hb => ⟨by
          rw [HTK.out]
          unfold semiL
          rw [List.filter_append]
          congr 1
          rw [← hb, HKA.out]
          simp [List.filter_cons]⟩
        by_cases hp : 0 < N
        · have hp1 : decide ((0 : Int) < (N : Int)) = true := decide_eq_true (by omega)
          have HS1 := hs1 _ hp1
          clear hs1
          obtain ⟨i0, hi0, hz0, hz1, hz2⟩ := info_parts info_rows
          have hcb := (blk_cell HOB3.out 1).trans rfl
          have HEL2 := Aside0.mk (show es.length + 1 ≤ maxLen by have := HEL.out; have := HL1.out; simp only [maxLen]; omega)
          have HEL3 := Aside0.mk (show (es.length + 1) * 24 ≤ 140737488355328 by have := HEL.out; have := HL1.out; omega)
          have HWC := Aside0.mk (Nat.le_trans HGR.out.size HB3.out.size)
          go_upto_region 7 with fail
          go_region_law
            (first
              | (refine step_append_lies _ (by rfl) _ _ _ (by rfl) wc.heap.size 25 i0 _ 1 24 Tryd.underlying24 hi0 hz0 hz1 hz2 rfl (by omega) v2 es.length (es.map (·.1)) (by rfl) ((pw_own_below HRW.out.1 (below_step HB3.out HB5.out)).alloc _)
                  ⟨w5.heap.size, 0, none⟩ 1 1 [.slice A5 y.length c5] (by rfl) (by rfl) (World.news_of_block (cs := #[.slice A5 y.length c5]) (t := 25) (fr := (0, 0)) (heap_alloc_new w5 _)) (by simp [Value.oneCell'])
                  (by omega) HEL2.out HEL3.out (by have := HWC.out; have := HB5.out.size; simp; omega) (w5.heap.size + 1) (by simp) ?_; intro gg cap w6 hown6 hgr6 hat6 hlt6; have HOB6 := Aside0.mk (blk_grown (blk_alloc HOB5.out _) hgr6 (own_ne HRW.out.1 HOBR.out (by decide))); have hcb7 := (blk_cell HOB6.out 1).trans rfl; have hfr7 := blk_frozen HOB6.out 1; have HOWN6 := Aside0.mk hown6; have HGR6 := Aside0.mk hgr6; have HAT6 := Aside0.mk hat6; clear hown6 hgr6 hat6 hlt6)
              | (go_simp; go_at_call 29; refine (slices_Clone_int_int.calls A' c' y y _ (Kd.C_below HCC.out (below_drew HB3.out)) HCL.out (by unfold slices_Clone_int_int.f; rw [if_pos HLT.out])).mono ?_; rintro e w5 ⟨vs5, rfl, hvs5, hb5⟩; have HV5 := Aside0.mk (OwnEl.of_R hvs5); obtain ⟨A5, c5, e5, hl5, hC5⟩ := HV5.out.reads; have e5 : vs5 = .slice A5 y.length c5 := e5; subst e5; clear hl5 hC5; have HB5 := Aside0.mk (below_step (below_drew (Below.refl w3.heap.size w3)) hb5); have HOB5 := Aside0.mk (blk_below HOB3.out HB5.out); have hcb5 := (blk_cell HOB5.out 1).trans rfl; have hcb6 := (blk_cell (blk_alloc HOB5.out (.cells #[.slice A5 y.length c5] 25)) 1).trans rfl; clear hvs5 hb5; go_wp2_with fail))
          all_goals go_wp2
          all_goals go_roundw
          case measure | measure | measure => simp [intOf]; omega
          all_goals
            have hb5a : Below w5.heap.size w5 (w5.alloc (.cells #[.slice A5 y.length c5] 25)) := (Below.refl _ _).alloc (Nat.le_refl _) _
            have hwr5 : Below wr.heap.size wr (w5.alloc (.cells #[.slice A5 y.length c5] 25)) := below_step (below_step HB3.out HB5.out) hb5a
            have hown5 : OwnEl (w5.alloc (.cells #[.slice A5 y.length c5] 25)) wc.heap.size (.slice A5 y.length c5, y) := (HV5.out.lower HWC.out).below hb5a
            have hrow6 := (HRW.out.below hwr5).push hown5 (fun g hg q hq he => by
              obtain ⟨inn, ho⟩ := Kd.R_own HV5.out
              have h1 := own_base ho g hg
              have h2 := (HRW.out.2.1 q hq).lt he
              have h3 := HB3.out.size
              have h4 : w3.drew.heap.size = w3.heap.size := rfl
              omega) HOWN6.out HGR6.out
            refine ⟨k + 1, _, es ++ [(.slice A5 y.length c5, y)], by omega, by go_num, aside0 (by have := HEL.out; simp; omega), aside0 (by rw [HS1.out, ← HES.out]; simp), aside0 (blk_put HOB6.out 1 _ rfl), aside0 ?_, aside0 ?_⟩
            · exact hrow6.step HOB6.out (by decide) (by decide) (fun g hg hne => Below.heap_setCell _ _ _ _ hne)
            · exact ((HGR.out.trans (grown_of_below hwr5 _)).andThen HGR6.out (fun g hg => .inl (own_base HRW.out.1 g hg))).trans (grown_setCell _ _ _ _)
        · have hp1 : decide ((0 : Int) < (N : Int)) = false := decide_eq_false (by omega)
          have HS1 := hs1 _ hp1
          clear hs1
          go_wp2
          go_roundw
          case rel =>
            refine ⟨k + 1, v2, es, by omega, by go_num, aside0 (Nat.le_succ_of_le HEL.out), aside0 ?_, HOB3, aside0 (HRW.out.below HB3.out), aside0 (HGR.out.trans (grown_of_below HB3.out _))⟩
            rw [HS1.out, HES.out]; simp
          case measure => simp [intOf]; omega
      · have hke : k = rA.length := by omega
        subst hke
        have hd2 : decide (rA.length < rA.length) = false := decide_eq_false (by omega)
        have hca := (blk_cell HOBR.out 0).trans rfl
        have hcb := (blk_cell HOBR.out 1).trans rfl
        have hr : wr.heap[w.heap.size + 2]? = some (.cells #[.slice none 0 0, .slice none 0 0] 36 (0, 0)) := blk_below HO.out HBR1.out
        have HRR := Aside0.mk hr
        have hra := (blk_cell hr 0).trans rfl
        have hrb := (blk_cell hr 1).trans rfl
        have hrc := blk_frozen hr 0
        have hrd := blk_frozen hr 1
        rw [List.take_length] at HES
        clear hr
        obtain ⟨As, cs, es1, hsl, hsC⟩ := HVS.out.reads
        have es1 : vs = .slice As sA.length cs := es1
        subst es1
        obtain ⟨Ar, cr, es2⟩ := own_slice HRW.out.1
        subst es2
        clear hsl hsC
        go_wp2
        have hr2 := blk_put (blk_put HRR.out 0 (.slice As sA.length cs) rfl) 1 (.slice Ar es.length cr) rfl
        have hza := (blk_cell hr2 0).trans rfl
        have hzb := (blk_cell hr2 1).trans rfl
        have hg2 := (grown_setCell wr (w.heap.size + 2) 0 (.slice As sA.length cs)).trans (grown_setCell _ (w.heap.size + 2) 1 (.slice Ar es.length cr))
        refine bodyPost_ret (v := .agg #[.slice As sA.length cs, .slice Ar es.length cr]) (by simp [results, Tryd.results19, go_sem, hza, hzb]) rfl ?_
        refine ⟨_, _, rfl, ?_, es, ?_, HES.out, ?_⟩
        · exact (HVS.out.apart HGR.out HRB.out).apart hg2 (RelBlk.of HRR.out)
        · exact ((HRW.out.lower HBW.out.size).step HRR.out (by decide) (by decide) (fun g hg hne => hg2.block g hg (fun e => hne (Option.some.inj e))))
        · exact (HBR.out.setCell (by simp; omega) _).setCell (by simp; omega) _

end Go.Proofs.YtgejnljpdfjgpaaDoor.Q
/- slices.CompactFunc over rows, with slices.Equal: the slice cut to what is kept: of neighbours that are the same the first. Its conditions: the row's cells hold the elements; the test answers what 'eqf' says, in every world that the row passes through. (Turned from the kit's slices.DeleteFunc and slices.Compact.) -/
namespace Go.Proofs.YtgejnljpdfjgpaaDoor.Q
open Go.RowKit Go.Sort Go.Lib Go.Proofs Go.Proofs.YtgejnljpdfjgpaaDoorW.PrintWords Go.Proofs.YtgejnljpdfjgpaaDoorW.PrintLast Go.Proofs.YtgejnljpdfjgpaaDoorW.PrintMore
set_option linter.unusedVariables false
set_option linter.unusedSimpArgs false

section
variable {α : Type} [Inhabited α]

/-- Place j is kept: it is the first, or differs from the one before it. -/
def kpOf (eqf : α → α → Bool) (d : Array α) (j : Nat) : Bool := j == 0 || !eqf d[j]! d[j - 1]!

def zrow (enc : α → Value) (zr : α) : Prop := enc zr = .slice none 0 0

set_option maxHeartbeats 4000000 in
set_option maxRecDepth 1000000 in
theorem slices_CompactFunc_rows (enc : α → Value) (hO : OneCell enc) (eqf : α → α → Bool) (zr : α) (hz : enc zr = .slice none 0 0) (blk off cap : Nat) (d : Array α) (w : World)
    (hcmp : ∀ (q : Nat) (dk : Array α), dk.size = d.size → ∀ x y : α, Calls Tryd.prog 38 #[enc x, enc y] (putRow enc (Sort.ahead w q) blk off dk) fun e w' => e = .returned (.bool (eqf x y)) ∧ ∃ n, w' = (putRow enc (Sort.ahead w q) blk off dk).drewN n)
    (hH : Holds enc w blk off d) (hsz : d.size ≤ 9223372036854775807) (hcap : d.size ≤ cap) :
    Calls Tryd.prog 57 #[.slice (some ⟨blk, off, none⟩) d.size cap, .func (.func 38) #[] #[]] w fun e w' => e = .returned (.slice (some ⟨blk, off, none⟩) (keptUpTo (kpOf eqf d) d d.size).length cap) ∧ ∃ q, w' = putRow enc (Sort.ahead w q) blk off (keptUpTo (kpOf eqf d) d d.size ++ List.replicate (d.size - (keptUpTo (kpOf eqf d) d d.size).length) zr).toArray := by
  have hcl0 := hO.cells
  simp only [Value.cells] at hcl0
  have hst := hO.store Tryd.prog
  obtain ⟨kp, HK⟩ : ∃ kp : Nat → Bool, Hid (kp = kpOf eqf d) := ⟨_, rfl⟩
  rw [← HK.out]
  have same : ∀ q, (∀ j, j < d.size → kp j = true) → (keptUpTo kp d d.size).length = d.size ∧ w.drewN q = putRow enc (Sort.ahead w q) blk off (keptUpTo kp d d.size ++ List.replicate (d.size - (keptUpTo kp d d.size).length) zr).toArray := by
    intro q hall
    have e : keptUpTo kp d d.size = d.toList := by rw [keptUpTo_all kp d _ hall, range_map_get]
    rw [e]
    refine ⟨by simp, ?_⟩
    simp only [Array.length_toList, Nat.sub_self, List.replicate_zero, List.append_nil, Array.toArray_toList]
    exact (putRow_self enc (Sort.ahead w q) blk off d (holds_ahead enc w q blk off d hH)).symm
  have HS := Aside0.mk same
  have HC := Aside0.mk hcmp
  have HZ := Aside0.mk hz
  have kp0 : kp 0 = true := by rw [HK.out]; simp [kpOf]
  clear same hcmp hz
  by_cases h2 : d.size < 2
  · have HH := Aside0.mk hH
    clear hH
    have h2b : decide ((d.size : Int) < 2) = true := decide_eq_true (by omega)
    have h2c : decide (d.size < 2) = true := decide_eq_true (by omega)
    go_enter Tryd.func57, Tryd.ntmps57
    go_wp2
    go_ret
    obtain ⟨e1, e2⟩ := HS.out 0 (fun j hj => by rw [show j = 0 by omega]; exact kp0)
    exact ⟨by rw [e1]; rfl, 0, e2⟩
  · have h2b : decide ((d.size : Int) < 2) = false := decide_eq_false (by omega)
    have h2c : decide (d.size < 2) = false := decide_eq_false (by omega)
    have v23 : ∀ w, (zeroValue 25).run Tryd.prog w = .ok (.slice none 0 0) w := fun w => by kernel_rfl
    go_enter Tryd.func57, Tryd.ntmps57
    go_wp2
    go_loopg [5] d.size (fun g s3 wr => ∃ k q : Nat, 1 ≤ k ∧ k ≤ d.size ∧ d.size - k ≤ g ∧ s3 = .int .i64 k ∧ wr = w.drewN q ∧ Aside0 (∀ j, j < k → kp j = true))
    case atStart => exact ⟨1, 0, Nat.le_refl _, by omega, by omega, rfl, rfl, aside0 (fun j hj => by rw [show j = 0 by omega]; exact kp0)⟩
    case round =>
      obtain ⟨k, q, hk1, hk, hg, rfl, hwr, A⟩ := hrel
      have W1 := Aside0.mk hwr
      by_cases hlt : k < d.size
      · have hltb : decide (k < d.size) = true := decide_eq_true (by omega)
        obtain ⟨c1, f1⟩ := hH k hlt
        obtain ⟨c0, f0⟩ := hH (k - 1) (by omega)
        have c1 : wr.cell? ⟨blk, off + k, none⟩ = some (enc d[k]!) := by rw [W1.out]; exact c1
        have c0 : wr.cell? ⟨blk, off + (k - 1), none⟩ = some (enc d[k - 1]!) := by rw [W1.out]; exact c0
        have hc : ∀ n, Calls Tryd.prog 38 #[enc d[k]!, enc d[k - 1]!] (wr.drewN n) fun e w' => e = .returned (.bool (eqf d[k]! d[k - 1]!)) ∧ ∃ m, w' = (wr.drewN n).drewN m := fun n => by
          have := HC.out (q + n) d rfl d[k]! d[k - 1]!
          rw [putRow_self enc (Sort.ahead w (q + n)) blk off d (holds_ahead enc w (q + n) blk off d hH)] at this
          rw [W1.out, World.drewN_drewN]
          exact this
        have HH := Aside0.mk hH
        clear hH hwr f1 f0
        have HKK := Aside0.mk (show kp k = !eqf d[k]! d[k - 1]! by rw [HK.out]; simp [kpOf]; omega)
        generalize hx : d[k]! = x at c1 hc HKK
        generalize hy : d[k - 1]! = y at c0 hc HKK
        clear hx hy
        cases hdup : eqf x y with
        | true =>
          rw [hdup] at hc HKK
          have HKF := Aside0.mk (show kp k = false from HKK.out)
          have HCC := Aside0.mk hc
          clear hc HKK hdup
          go_wp2_with fail
          go_quiet (exact Calls.quiet_of (HCC.out _))
          go_wp2
          clear c0 c1
          go_loopg [5, 7] d.size (fun g s3 s5 wr => ∃ (kk k2 q2 : Nat) (dk : Array α), s3 = .int .i64 kk ∧ s5 = .int .i64 k2 ∧ 1 ≤ k2 ∧ k + k2 ≤ d.size ∧ d.size - (k + k2) ≤ g ∧ Aside0 (wr = putRow enc (Sort.ahead w q2) blk off dk) ∧ Aside0 (KeptInv kp d (k + k2) kk dk))
          case atStart =>
            refine ⟨k, 1, ?qq, d, rfl, rfl, Nat.le_refl _, by omega, by omega, aside0 ?hw, aside0 (KeptInv.start A.out HKF.out)⟩
            case hw =>
              rw [W1.out, World.drewN_drewN]
              exact (putRow_self enc (Sort.ahead w (q + _)) blk off d (holds_ahead enc w (q + _) blk off d HH.out)).symm
          case round =>
            obtain ⟨kk, k2, q2, dk, rfl, rfl, h1, hle, hg2, W2, I2⟩ := hrel
            have hI := I2.out
            have hkk := hI.lt
            have hds := hI.size
            have hHk : Holds enc wr blk off dk := by rw [W2.out]; exact holds_putRow enc _ blk off d dk (holds_ahead enc w q2 blk off d HH.out) hds
            by_cases hlt2 : k + k2 < d.size
            · have hlt2b : decide (k2 < d.size - k) = true := decide_eq_true (by omega)
              obtain ⟨cm, _⟩ := hHk (k + k2) (by omega)
              obtain ⟨cp, _⟩ := hHk (k + k2 - 1) (by omega)
              obtain ⟨ck, fk⟩ := hHk kk (by omega)
              rw [hI.high (k + k2) (by omega), show off + (k + k2) = off + k + k2 by omega] at cm
              rw [hI.high (k + k2 - 1) (by omega), show off + (k + k2 - 1) = off + k + (k2 - 1) by omega] at cp
              have hc : ∀ n, Calls Tryd.prog 38 #[enc d[k + k2]!, enc d[k + k2 - 1]!] (wr.drewN n) fun e w' => e = .returned (.bool (eqf d[k + k2]! d[k + k2 - 1]!)) ∧ ∃ m, w' = (wr.drewN n).drewN m := fun n => by
                have := HC.out (q2 + n) dk hds d[k + k2]! d[k + k2 - 1]!
                rw [W2.out, putRow_drewN]
                exact this
              have HKK := Aside0.mk (show kp (k + k2) = !eqf d[k + k2]! d[k + k2 - 1]! by rw [HK.out]; simp [kpOf]; omega)
              clear hHk hI hds
              generalize hu : d[k + k2]! = u at cm hc HKK
              generalize hv : d[k + k2 - 1]! = v at cp hc HKK
              generalize dk[kk]! = old at ck
              have C := Aside0.mk hu
              clear hu hv
              cases huv : eqf u v with
              | true =>
                rw [huv] at hc HKK
                have HKF2 := Aside0.mk (show kp (k + k2) = false from HKK.out)
                have HCC := Aside0.mk hc
                clear hc HKK huv
                go_wp2_with fail
                go_quiet (exact Calls.quiet_of (HCC.out _))
                go_wp2
                go_roundg (d.size - (k + (k2 + 1)))
                case measure => omega
                case rel =>
                  refine ⟨kk, k2 + 1, ?qb, dk, rfl, by go_num, by omega, by omega, Nat.le_refl _, aside0 ?hw, aside0 (I2.out.skip HKF2.out)⟩
                  case hw => rw [W2.out, putRow_drewN]
              | false =>
                rw [huv] at hc HKK
                have HKF2 := Aside0.mk (show kp (k + k2) = true from HKK.out)
                have HCC := Aside0.mk hc
                clear hc HKK huv
                go_wp2_with fail
                go_quiet (exact Calls.quiet_of (HCC.out _))
                go_wp2
                go_roundg (d.size - (k + (k2 + 1)))
                case measure => omega
                case rel =>
                  refine ⟨kk + 1, k2 + 1, ?qc, dk.setIfInBounds kk u, by go_num, by go_num, by omega, by omega, Nat.le_refl _, aside0 ?hw, aside0 ?hi⟩
                  case hw => rw [W2.out, putRow_drewN, putRow_set enc _ blk off dk kk u (by have := I2.out.size; omega)]
                  case hi =>
                    have := I2.out.keep hlt2 HKF2.out
                    rwa [C.out] at this
            · have hend : k + k2 = d.size := by omega
              have hlt2b : decide (k2 < d.size - k) = false := decide_eq_false (by omega)
              have hcl : ∀ ty, (Builtin.clear_ #[24] ty #[.slice (some ⟨blk, off + kk, none⟩) (d.size - kk) (cap - kk)]).run Tryd.prog wr = .ok (.tuple #[]) (wr.setCells blk (off + kk) (List.replicate (d.size - kk) (.slice none 0 0))) :=
                fun ty => Lib.run_clear_slice wr _ _ ty _ Tryd.underlying24 v23 rfl rfl blk (off + kk) _ _ (by omega) (fun j hj => by rw [show off + kk + j = off + (kk + j) by omega, (hHk (kk + j) (by omega)).1]; rfl) (fun j hj => by rw [show off + kk + j = off + (kk + j) by omega]; exact (hHk (kk + j) (by omega)).2)
              clear hHk hI hds
              go_wp2
              go_ret
              have hI := I2.out
              rw [hend] at hI
              refine ⟨by rw [hI.len]; rfl, q2, ?_⟩
              rw [hI.len, ← hI.done zr, ← putRow_setCells enc _ blk off _ dk kk (by have := hI.size; simp; omega), ← W2.out, List.map_replicate, HZ.out]
        | false =>
          rw [hdup] at hc HKK
          have HKF := Aside0.mk (show kp k = true from HKK.out)
          have HCC := Aside0.mk hc
          clear hc HKK hdup
          go_wp2_with fail
          go_quiet (exact Calls.quiet_of (HCC.out _))
          go_wp2
          go_roundg (d.size - (k + 1))
          case measure => omega
          case rel =>
            refine ⟨k + 1, ?qa, by omega, by omega, Nat.le_refl _, by go_num, ?hv, aside0 fun j hj => ?ha⟩
            case hv => rw [W1.out]; exact World.drewN_drewN _ _ _
            case ha =>
              by_cases e : j = k
              · subst e
                exact HKF.out
              · exact A.out j (by omega)
      · have : k = d.size := by omega
        subst this
        have hltb : decide (d.size < d.size) = false := decide_eq_false (by omega)
        have HH := Aside0.mk hH
        clear hH hwr
        go_wp2
        go_ret
        obtain ⟨e1, e2⟩ := HS.out q A.out
        exact ⟨by rw [e1]; rfl, q, by rw [W1.out]; exact e2⟩
end

end Go.Proofs.YtgejnljpdfjgpaaDoor.Q
/- tuple.Sort: the rows in order, each once, in memory of the call's own. Its conditions: the rows are read at the call; there are fewer than 2^40, each shorter than 2^44. -/
namespace Go.Proofs.YtgejnljpdfjgpaaDoor.Q
open Go.RowKit Go.Proofs Go.Proofs.YtgejnljpdfjgpaaDoorW.PrintWords Go.Proofs.YtgejnljpdfjgpaaDoorW.PrintLast Go.Proofs.YtgejnljpdfjgpaaDoorW.PrintMore
set_option linter.unusedVariables false
set_option linter.unusedSimpArgs false

/-- What is kept of a row that rises, and has some more than once. -/
theorem kept_up {α : Type} [Inhabited α] (key : α → List Int) (d : Array α) (hs : ∀ i j, i < j → j < d.size → cmpL (key d[i]!) (key d[j]!) ≤ 0) (m : Nat) (hm : m ≤ d.size) :
    Up ((Lib.keptUpTo (kpOf (fun x y => decide (key x = key y)) d) d m).map key) ∧ ∀ x, x ∈ (Lib.keptUpTo (kpOf (fun x y => decide (key x = key y)) d) d m).map key ↔ ∃ j, j < m ∧ key d[j]! = x := by
  induction m with
  | zero => exact ⟨by simp [Lib.keptUpTo, Up], fun x => by simp [Lib.keptUpTo]⟩
  | succ m ih =>
    obtain ⟨h1, h2⟩ := ih (by omega)
    rw [Lib.keptUpTo_succ]
    by_cases hk : kpOf (fun x y => decide (key x = key y)) d m = true
    · rw [if_pos hk, List.map_append]
      constructor
      · unfold Up
        rw [List.pairwise_append]
        refine ⟨h1, by simp, fun a ha b hb => ?_⟩
        obtain ⟨j, hj, rfl⟩ := (h2 a).1 ha
        have hb' : b = key d[m]! := by simpa using hb
        subst hb'
        have h3 := hs j m hj (by omega)
        have hk' : m = 0 ∨ ¬ key d[m]! = key d[m - 1]! := by simpa [kpOf] using hk
        rcases hk' with e | e
        · omega
        · rcases Nat.lt_or_ge j (m - 1) with hj2 | hj2
          · have h4 := hs j (m - 1) hj2 (by omega)
            have h5 := hs (m - 1) m (by omega) (by omega)
            rcases Int.lt_or_eq_of_le h5 with h5 | h5
            · rcases Int.lt_or_eq_of_le h4 with h4 | h4
              · exact cmpL_trans h4 h5
              · rw [cmpL_eq h4]; exact h5
            · exact absurd (cmpL_eq h5).symm e
          · have e2 : j = m - 1 := by omega
            subst e2
            rcases Int.lt_or_eq_of_le h3 with h5 | h5
            · exact h5
            · exact absurd (cmpL_eq h5).symm e
      · intro x
        rw [List.mem_append, h2 x]
        constructor
        · rintro (⟨j, hj, e⟩ | h)
          · exact ⟨j, by omega, e⟩
          · exact ⟨m, by omega, by simpa using Eq.symm (by simpa using h)⟩
        · rintro ⟨j, hj, e⟩
          by_cases hjm : j = m
          · subst hjm; exact .inr (by simp [e])
          · exact .inl ⟨j, by omega, e⟩
    · rw [if_neg hk, List.append_nil]
      refine ⟨h1, fun x => (h2 x).trans ⟨fun ⟨j, hj, e⟩ => ⟨j, by omega, e⟩, fun ⟨j, hj, e⟩ => ?_⟩⟩
      by_cases hjm : j = m
      · subst hjm
        have hk' : ¬ (j = 0 ∨ ¬ key d[j]! = key d[j - 1]!) := by simpa [kpOf] using hk
        exact ⟨j - 1, by omega, by rw [← e]; exact (Classical.byContradiction fun h => hk' (.inr fun h' => h h'.symm))⟩
      · exact ⟨j, by omega, e⟩

def tuple_Sort.f (l0 : List (List Int)) : Option (List (List Int)) := if l0.length < 1099511627776 ∧ l0.all (fun x => decide (x.length < 17592186044416)) = true then some (sortU l0) else none

/-- A row's element, told in worlds that turn nothing but block g. -/
def GoodEl (W1 : World) (g : Nat) (p : El) : Prop := ∃ A c, p.1 = .slice A p.2.length c ∧ p.2.length ≤ c ∧ ∀ W : World, (∀ k, k < W1.heap.size → k ≠ g → W.heap[k]? = W1.heap[k]?) → (Kd.int .i64).C W A p.2.length p.2
theorem GoodEl.nil (W1 : World) (g : Nat) : GoodEl W1 g (.slice none 0 0, []) := ⟨none, 0, rfl, by simp, fun W _ => Kd.C_nil _ _⟩
theorem GoodEl.of {W1 : World} {base g : Nat} {p : El} {cur : Array Value} (h : OwnEl W1 base p) (hg : W1.heap[g]? = some (.cells cur 25 (0, 0))) : GoodEl W1 g p := by
  obtain ⟨A, c, e, hc, _⟩ := h.reads
  refine ⟨A, c, e, hc, fun W hW => ?_⟩
  have h2 := h.step hg (by decide) hW
  obtain ⟨A', c', e', _, hC⟩ := h2.reads
  rw [e] at e'
  injection e' with e1 _ _
  rw [e1]
  exact hC

abbrev SEl (W1 : World) (g : Nat) := { p : El // GoodEl W1 g p }
instance (W1 : World) (g : Nat) : Inhabited (SEl W1 g) := ⟨⟨(.slice none 0 0, []), GoodEl.nil W1 g⟩⟩
def sZero (W1 : World) (g : Nat) : SEl W1 g := ⟨(.slice none 0 0, []), GoodEl.nil W1 g⟩
def sEnc (W1 : World) (g : Nat) (p : SEl W1 g) : Value := p.1.1
def sKey (W1 : World) (g : Nat) (p : SEl W1 g) : List Int := p.1.2
theorem sEnc_one (W1 : World) (g : Nat) : OneCell (sEnc W1 g) := fun p => by
  obtain ⟨A, c, e, _⟩ := p.2
  unfold sEnc
  rw [e]
  rfl
def sCf (W1 : World) (g : Nat) (x y : SEl W1 g) : Int := cmpL (sKey W1 g x) (sKey W1 g y)
theorem sSwo (W1 : World) (g : Nat) : Sort.SWO (ltOf (sCf W1 g)) where
  irrefl x := by simp [ltOf, sCf, cmpL_self]
  trans x y z h1 h2 := by
    have a := of_decide_eq_true h1
    have b := of_decide_eq_true h2
    exact decide_eq_true (cmpL_trans a b)
  ntrans x y z h1 h2 := by
    have h1 := of_decide_eq_false h1
    have h2 := of_decide_eq_false h2
    refine decide_eq_false ?_
    unfold sCf at h1 h2 ⊢
    have a := cmpL_neg (sKey W1 g x) (sKey W1 g y)
    have b := cmpL_neg (sKey W1 g y) (sKey W1 g z)
    have c := cmpL_neg (sKey W1 g x) (sKey W1 g z)
    have := cmpL_le_trans (a := sKey W1 g z) (b := sKey W1 g y) (c := sKey W1 g x) (by omega) (by omega)
    omega

theorem sCmp {W1 : World} {g : Nat} (x y : SEl W1 g) (W : World) (hW : ∀ k, k < W1.heap.size → k ≠ g → W.heap[k]? = W1.heap[k]?) :
    Calls Tryd.prog 56 #[sEnc W1 g x, sEnc W1 g y] W fun e w' => e = .returned (.int .i64 (sCf W1 g x y)) ∧ ∃ q, w' = W.drewN q := by
  obtain ⟨A, c, e, hc, hC⟩ := x.2
  obtain ⟨A', c', e', hc', hC'⟩ := y.2
  unfold sEnc sCf sKey
  rw [e, e']
  have hx := hC W hW
  have hl := Kd.C_max hx
  refine (tuple_Compare.calls (x.1.2.length + 1) A c x.1.2 A' c' y.1.2 _ W hx hc (hC' W hW) hc' (tuple_Compare_eq _ _ hl)).mono ?_
  · rintro e w' ⟨rfl, ⟨q, rfl⟩⟩
    exact ⟨rfl, q, rfl⟩

theorem sEq {W1 : World} {g : Nat} (x y : SEl W1 g) (W : World) (hW : ∀ k, k < W1.heap.size → k ≠ g → W.heap[k]? = W1.heap[k]?) :
    Calls Tryd.prog 38 #[sEnc W1 g x, sEnc W1 g y] W fun e w' => e = .returned (.bool (decide (sKey W1 g x = sKey W1 g y))) ∧ ∃ q, w' = W.drewN q := by
  obtain ⟨A, c, e, hc, hC⟩ := x.2
  obtain ⟨A', c', e', hc', hC'⟩ := y.2
  unfold sEnc sKey
  rw [e, e']
  have hx := hC W hW
  have hl := Kd.C_max hx
  refine (slices_Equal_int_int.calls (x.1.2.length + 1) A c x.1.2 A' c' y.1.2 _ W hx hc (hC' W hW) hc' (slices_Equal_eq _ _ hl)).mono ?_
  rintro e w' ⟨rfl, ⟨q, rfl⟩⟩
  exact ⟨rfl, q, rfl⟩

theorem RowsAt.below {W W' : World} {base g cap : Nat} {es : List El} (h : RowsAt W base g cap es) (hb : Below W.heap.size W W') : RowsAt W' base g cap es := by
  obtain ⟨cur, h1, h2⟩ := h.blk
  exact ⟨h.ge, ⟨cur, blk_below h1 hb, h2⟩, h.len, h.cap, fun p hp => (h.own p hp).below hb, h.apart⟩
theorem RowsAt.drewN {W : World} {base g cap : Nat} {es : List El} (h : RowsAt W base g cap es) (n : Nat) : RowsAt (W.drewN n) base g cap es := h.below (pw_below_drewN (Below.refl _ _) n)
theorem RowsAt.cell {W : World} {base g cap : Nat} {es : List El} (h : RowsAt W base g cap es) (i : Nat) (hi : i < es.length) : W.cell? ⟨g, i, none⟩ = some es[i].1 ∧ W.frozen? ⟨g, i, none⟩ = false := by
  obtain ⟨cur, h1, h2, h3⟩ := h.blk
  refine ⟨?_, blk_frozen h1 i⟩
  rw [blk_cell h1 i]
  have : (cur.toList.take es.length)[i]? = (es.map (·.1))[i]? := by rw [h3]
  rw [List.getElem?_take, if_pos hi] at this
  rw [← Array.getElem?_toList, this]
  simp [hi]
/-- An element that is new is stored. -/
theorem RowsAt.set {W : World} {base g cap : Nat} {es : List El} (h : RowsAt W base g cap es) (i : Nat) (hi : i < es.length) {v : Value} {x : List Int} (hv : OwnEl W base (v, x)) (hnew : ∀ k, v.ownBlock = some k → ∀ p ∈ es, p.1.ownBlock ≠ some k) :
    RowsAt (W.setCell ⟨g, i, none⟩ v) base g cap (es.set i (v, x)) := by
  obtain ⟨cur, h1, h2, h3⟩ := h.blk
  have hst : ∀ p, OwnEl W base p → OwnEl (W.setCell ⟨g, i, none⟩ v) base p := fun p hp => hp.step h1 (by decide) (fun k _ hk => Below.heap_setCell W ⟨g, i, none⟩ v k hk)
  refine ⟨h.ge, ⟨_, blk_set h1 i v, by simp [h2], ?_⟩, by simpa using h.len, h.cap, ?_, ?_⟩
  · rw [List.length_set, Array.toList_setIfInBounds, List.take_set, h3, List.map_set]
  · intro p hp
    rcases List.mem_or_eq_of_mem_set hp with hp | rfl
    · exact hst p (h.own p hp)
    · exact hst _ hv
  · intro a b p q hp hq hab k hk
    rw [List.getElem?_set] at hp hq
    by_cases ha : i = a
    · subst ha
      rw [if_pos rfl, if_pos hi] at hp
      obtain rfl := Option.some.inj hp
      rw [if_neg hab] at hq
      exact hnew k hk q (List.mem_of_getElem? hq)
    · rw [if_neg ha] at hp
      by_cases hb : i = b
      · subst hb
        rw [if_pos rfl, if_pos hi] at hq
        obtain rfl := Option.some.inj hq
        intro e
        exact hnew k e p (List.mem_of_getElem? hp) hk
      · rw [if_neg hb] at hq
        exact h.apart a b p q hp hq hab k hk
theorem RowsAt.made (w : World) (n : Nat) (hn : n ≤ maxLen) : RowsAt (w.alloc (.cells (madeCells #[.slice none 0 0] n) 25)) w.heap.size w.heap.size n (List.replicate n (.slice none 0 0, [])) := by
  refine ⟨Nat.le_refl _, ⟨_, heap_alloc_new w _, size_madeCells _ _, ?_⟩, by simp, hn, ?_, ?_⟩
  · apply List.ext_getElem
    · simp [madeCells]
    · intro i h1 h2
      simp [madeCells, Nat.mod_one]
  · intro p hp
    rw [List.eq_of_mem_replicate hp]
    exact OwnEl.nil _ _
  · intro i j p q hp hq _ k hk
    rw [List.eq_of_mem_replicate (List.mem_of_getElem? hp)] at hk
    simp [Value.ownBlock] at hk

theorem apart_iff (es : List El) : ApartEl es ↔ es.Pairwise fun p q => ∀ k, p.1.ownBlock = some k → q.1.ownBlock ≠ some k := by
  rw [List.pairwise_iff_getElem]
  constructor
  · intro h i j hi hj hij
    exact h i j _ _ (List.getElem?_eq_getElem hi) (List.getElem?_eq_getElem hj) (by omega)
  · intro h i j p q hp hq hne k hk e
    obtain ⟨hi, rfl⟩ := List.getElem?_eq_some_iff.1 hp
    obtain ⟨hj, rfl⟩ := List.getElem?_eq_some_iff.1 hq
    rcases Nat.lt_or_ge i j with h1 | h1
    · exact h i j hi hj h1 k hk e
    · exact h j i hj hi (by omega) k e hk

/-- What is kept of a permutation, behind the sort: a row of rows. -/
theorem RowsAt.kept {W1 W3 : World} {base g cap : Nat} {es : List El} (h : RowsAt W1 base g cap es) (hsz : es.length = cap) (l : List (SEl W1 g)) (hl : (l.map (·.1)).Sublist es ∨ ∃ m : List El, (l.map (·.1)).Sublist m ∧ m.Perm es)
    (hW : ∀ k, k < W1.heap.size → k ≠ g → W3.heap[k]? = W1.heap[k]?) {cur : Array Value} (hb : W3.heap[g]? = some (.cells cur 25 (0, 0))) (hc : cur.size = cap) (ht : cur.toList.take l.length = l.map (sEnc W1 g)) :
    RowsAt W3 base g cap (l.map (·.1)) := by
  obtain ⟨c1, hb1, _, _⟩ := h.blk
  obtain ⟨m, hs, hp⟩ : ∃ m : List El, (l.map (·.1)).Sublist m ∧ m.Perm es := by
    rcases hl with hl | hl
    · exact ⟨es, hl, List.Perm.refl _⟩
    · exact hl
  have hlen : l.length ≤ cap := by
    have h1 := hs.length_le
    have h2 := hp.length_eq
    simp at h1
    omega
  refine ⟨h.ge, ⟨cur, hb, hc, ?_⟩, by simpa using hlen, h.cap, ?_, ?_⟩
  · rw [List.length_map, ht, List.map_map]
    rfl
  · intro p hpm
    exact (h.own p (hp.mem_iff.1 (hs.mem hpm))).step hb1 (by decide) hW
  · rw [apart_iff]
    refine List.Pairwise.sublist hs ?_
    exact (hp.pairwise_iff (fun {p q} hpq k hk e => hpq k e hk)).2 ((apart_iff es).1 h.apart)

set_option maxHeartbeats 1000000 in
set_option maxRecDepth 100000 in
theorem tuple_Sort.calls (A0 : Option Addr) (c0 : Nat) (l0 : List (List Int)) (r : List (List Int)) (w : World) (hr0 : Kd.C (Kd.slice 3 (Kd.int .i64)) w A0 l0.length l0) (hc0 : l0.length ≤ c0) (h : tuple_Sort.f l0 = some r) :
    Calls Tryd.prog 49 #[.slice A0 l0.length c0] w fun e w' => ∃ v0_ : Value, e = .returned (v0_) ∧ Kd.S (Kd.slice 3 (Kd.int .i64)) 25 w' w.heap.size (fun _ => True) v0_ r ∧ Below w.heap.size w w' := by
  unfold tuple_Sort.f at h
  by_cases c2 : l0.length < 1099511627776 ∧ l0.all (fun x => decide (x.length < 17592186044416)) = true
  · rw [if_pos c2] at h
    obtain rfl := Option.some.inj h
    have hmk : ∀ W : World, (Instr.makeSlice 24 (.int .i64 (l0.length : Int)) (.int .i64 (l0.length : Int))).run Tryd.prog W = .ok (.slice (some ⟨W.heap.size, 0, none⟩) l0.length l0.length) (W.alloc (.cells (madeCells #[.slice none 0 0] l0.length) 25)) := fun W => by
      obtain ⟨i0, hi, hz0, hz1, hz2⟩ := info_parts info25
      have := run_make (P := Tryd.prog) W 24 25 i0 (.slice none 0 0) Tryd.underlying24 hi hz0 .i64 .i64 l0.length l0.length (by omega) (by omega) (by rw [hz2]; omega) (by omega)
      rw [hz1, Nat.mul_one, Int.toNat_natCast] at this
      exact this
    have HR0 := Aside0.mk hr0
    have HL := Aside0.mk c2.1
    have HA := Aside0.mk c2.2
    have hlm : l0.length < 1099511627776 := c2.1
    clear hr0 hc0 c2 h
    go_enter Tryd.func49, Tryd.ntmps49
    go_wp2
    go_loopw [11] (fun i wr => ∃ k : Nat, k ≤ l0.length ∧ i = .int .i64 k ∧ (∃ es : List El, Aside0 (RowsAt wr w.heap.size w.heap.size l0.length es) ∧ Aside0 (es.map (·.2) = l0.take k ++ List.replicate (l0.length - k) [])) ∧ Aside0 (Below w.heap.size w wr)) (fun i _ => l0.length - (intOf i).toNat)
    case atStart => exact ⟨0, Nat.zero_le _, rfl, ⟨_, aside0 (RowsAt.made w _ (by simp [maxLen]; omega)), aside0 (by simp)⟩, aside0 ((Below.refl _ _).alloc (Nat.le_refl _) _)⟩
    case round =>
      obtain ⟨k, hk, rfl, ⟨es, HE, HM⟩, HB⟩ := hrel
      clear hmk
      by_cases hlt : k < l0.length
      · have hd : decide ((k : Int) < (l0.length : Int)) = true := decide_eq_true (by omega)
        have hd2 : decide (k < l0.length) = true := decide_eq_true hlt
        obtain ⟨ad, A1, c1, e1, hx, hc1, hC1⟩ := at_sl HR0.out k hlt
        subst e1
        replace hx := (HB.out.cell (World.block_lt_of_cell? w _ hx)).trans hx
        have hel : es.length = l0.length := by
          have := congrArg List.length HM.out
          simp at this
          omega
        have HX := Aside0.mk (show slices_Clone_int_int.f (l0.getD k []) = some (l0.getD k []) from by
          have := List.all_eq_true.1 HA.out (l0.getD k []) (by rw [List.getD_eq_getElem?_getD, List.getElem?_eq_getElem hlt]; exact List.getElem_mem hlt)
          unfold slices_Clone_int_int.f
          rw [if_pos (of_decide_eq_true this)])
        have HX1 := Aside0.mk hc1
        have HX2 := Aside0.mk (Kd.C_below hC1 HB.out)
        clear hc1 hC1
        have HN := Aside0.mk (show (es.set k (Value.slice none 0 0, l0.getD k [])).map (·.2) = l0.take (k + 1) ++ List.replicate (l0.length - (k + 1)) [] from by
          rw [List.map_set, HM.out, List.take_succ_eq_append_getElem hlt]
          have : l0.length - k = (l0.length - (k + 1)) + 1 := by omega
          rw [this, List.replicate_succ, List.set_append_right _ _ (by simp; omega)]
          have e : k - (l0.take k).length = 0 := by simp; omega
          rw [e, List.set_cons_zero, List.append_assoc, List.singleton_append, List.getD_eq_getElem?_getD, List.getElem?_eq_getElem hlt]
          rfl)
        generalize hy : l0.getD k [] = y at hx HX HX1 HX2 HN
        clear hy
        have HEL := Aside0.mk hel
        clear hel
        go_wp2_with fail
        refine (slices_Clone_int_int.calls A1 c1 y y _ HX2.out HX1.out HX.out).mono ?_
        rintro e w1 ⟨v1, rfl, hv1, hb1⟩
        have HE1 := Aside0.mk (HE.out.below hb1)
        have HB1 := Aside0.mk (below_step HB.out hb1)
        have HV := Aside0.mk (OwnEl.of_R (Kd.R_lower hv1 HB.out.size))
        have HNW := Aside0.mk (show ∀ j, v1.ownBlock = some j → ∀ p ∈ es, p.1.ownBlock ≠ some j from fun j hj p hp e => by
          have h1 := (HE.out.own p hp).lt e
          have h2 := Kd.R_base hv1 j hj
          omega)
        obtain ⟨A2, c2, rfl⟩ := Kd.R_slice hv1
        obtain ⟨hce, hfz⟩ := HE1.out.cell k (by rw [HEL.out]; exact hlt)
        clear hv1 hb1 HE HB hx
        go_wp2
        go_roundw
        case rel => exact ⟨k + 1, by omega, by go_num, ⟨_, aside0 (HE1.out.set k (by rw [HEL.out]; exact hlt) HV.out HNW.out), aside0 (by have := HN.out; rw [List.map_set] at this ⊢; exact this)⟩, aside0 (HB1.out.setCell (Nat.le_refl _) _)⟩
        case measure => simp [intOf]; omega
      · have hke : k = l0.length := by omega
        subst hke
        have hd2 : decide (l0.length < l0.length) = false := decide_eq_false (by omega)
        have hel : es.length = l0.length := by
          have := congrArg List.length HM.out
          simp at this
          omega
        have HM' := Aside0.mk (show es.map (·.2) = l0 from by have := HM.out; rw [List.take_length, Nat.sub_self] at this; simpa using this)
        rw [← hel]
        have HEL := Aside0.mk hel
        clear hel hlt hd2 HM hk
        obtain ⟨cur, hcb, hcs, hct⟩ := HE.out.blk
        have hgood : ∀ p ∈ es, GoodEl wr w.heap.size p := fun p hp => GoodEl.of (HE.out.own p hp) hcb
        obtain ⟨d, HD⟩ : ∃ d : Array (SEl wr w.heap.size), Aside0 (d.toList.map (·.1) = es) := ⟨(es.pmap (fun p h => (⟨p, h⟩ : SEl wr w.heap.size)) hgood).toArray, aside0 (by simp [List.map_pmap])⟩
        have hds : d.size = es.length := by rw [← HD.out]; simp
        have hH : Sort.Holds (sEnc wr w.heap.size) wr w.heap.size 0 d := fun j hj => by
          have hj2 : j < es.length := by omega
          have := HE.out.cell j hj2
          rw [Nat.zero_add, getElem!_pos d j hj]
          refine ⟨this.1.trans ?_, this.2⟩
          have e : es[j] = d[j].1 := by
            have h2 : (d.toList.map (·.1))[j]? = es[j]? := by rw [HD.out]
            rw [List.getElem?_map, Array.getElem?_toList, Array.getElem?_eq_getElem hj, List.getElem?_eq_getElem hj2] at h2
            exact (Option.some.inj h2).symm
          rw [e]
          rfl
        have hS := Tryd.slices_SortFunc (sEnc wr w.heap.size) (sEnc_one wr w.heap.size) (sCf wr w.heap.size) (sSwo wr w.heap.size) 56 #[] w.heap.size 0 es.length d wr (enters_of Tryd.func56 (by kernel_rfl) rfl)
          (CmpReads.lays (fun m os dk hs x y => sCmp x y _ (fun k hk hne => sortWorld_heap _ _ _ _ _ _ _ k hk hne))) hH (blk_lt hcb) (by have := HEL.out; omega)
        rw [hds] at hS
        have HS := Aside0.mk hS
        have HCB := Aside0.mk hcb
        have HCS := Aside0.mk hcs
        have HDS := Aside0.mk hds
        have HH := Aside0.mk hH
        clear hS hcb hcs hct hgood hds hH
        go_wp2_with fail
        refine HS.out.mono ?_
        rintro e W2 ⟨rfl, d', n, os, hp, hs, rfl⟩
        have hsz' : d'.size = es.length := hp.1.trans HDS.out
        have hperm : d'.toList.Perm d.toList := by
          have h3 := hp.2.2
          rw [← HDS.out] at h3
          have e1 : d'.extract 0 d.size = d' := by rw [← hp.1]; simp
          have e2 : d.extract 0 d.size = d := by simp
          rw [e1, e2] at h3
          exact h3
        have hcur2 := sortWorld_blk (sEnc wr w.heap.size) wr w.heap.size 0 n d' os HCB.out
        have hC := slices_CompactFunc_rows (sEnc wr w.heap.size) (sEnc_one wr w.heap.size) (fun x y => decide (sKey wr w.heap.size x = sKey wr w.heap.size y)) (sZero wr w.heap.size) rfl w.heap.size 0 es.length d' (sortWorld (sEnc wr w.heap.size) wr w.heap.size 0 n d' os)
          (fun q dk hs x y => sEq x y _ (fun k hk hne => (putRow_heap _ _ _ _ _ _ k hne).trans (sortWorld_heap _ _ _ _ _ _ _ k hk hne)))
          (fun j hj => by
            have := Sort.holds_putRow (sEnc wr w.heap.size) (Sort.ahead wr n) w.heap.size 0 d d' (Sort.holds_ahead _ _ _ _ _ _ HH.out) (by rw [hsz', HDS.out]) j hj
            have hlt : w.heap.size < (Sort.putRow (sEnc wr w.heap.size) (Sort.ahead wr n) w.heap.size 0 d').heap.size := by rw [putRow_size]; exact blk_lt HCB.out
            exact ⟨(Sort.cell?_grow _ _ _ hlt).trans this.1, (Sort.frozen?_grow _ _ _ hlt).trans this.2⟩)
          (by have := HEL.out; omega) (by omega)
        rw [hsz'] at hC
        have HC := Aside0.mk hC
        have HP := Aside0.mk hperm
        have HSS := Aside0.mk hs
        have HSZ := Aside0.mk hsz'
        have HC2 := Aside0.mk hcur2
        clear hC hperm hs hp hsz' hcur2 HS
        go_wp2_with fail
        refine HC.out.mono ?_
        rintro e W3 ⟨rfl, q, rfl⟩
        obtain ⟨kept, HK⟩ : ∃ kept, Aside0 (Lib.keptUpTo (kpOf (fun x y => decide (sKey wr w.heap.size x = sKey wr w.heap.size y)) d') d' es.length = kept) := ⟨_, aside0 rfl⟩
        rw [HK.out]
        go_wp2
        go_ret
        have hkl : kept.length ≤ d'.size := by
          have h1 : kept.Sublist ((List.range es.length).map (d'[·]!)) := by
            rw [← HK.out]
            exact List.Sublist.map _ List.filter_sublist
          have := h1.length_le
          simpa [HSZ.out] using this
        have hsub : kept.Sublist d'.toList := by
          have h1 : kept.Sublist ((List.range es.length).map (d'[·]!)) := by
            rw [← HK.out]
            exact List.Sublist.map _ List.filter_sublist
          rw [← HSZ.out, Lib.range_map_get] at h1
          exact h1
        have hrows := RowsAt.kept HE.out HEL.out kept (.inr ⟨d'.toList.map (·.1), hsub.map _, by rw [← HD.out]; exact HP.out.map _⟩)
          (W3 := Sort.putRow (sEnc wr w.heap.size) (Sort.ahead (sortWorld (sEnc wr w.heap.size) wr w.heap.size 0 n d' os) q) w.heap.size 0 (kept ++ List.replicate (es.length - kept.length) (sZero wr w.heap.size)).toArray)
          (fun k hk hne => (putRow_heap _ _ _ _ _ _ k hne).trans (sortWorld_heap _ _ _ _ _ _ _ k hk hne)) (putRow_blk _ _ _ _ _ _ HC2.out) (by simp [Sort.putCells, HCS.out])
          (by
            have h1 := putCells_take (sEnc wr w.heap.size) (kept ++ List.replicate (es.length - kept.length) (sZero wr w.heap.size)).toArray (Sort.putCells (sEnc wr w.heap.size) 0 d' cur) (by have := HSZ.out; have := HCS.out; have := HEL.out; simp [Sort.putCells]; omega)
            have h2 := congrArg (List.take kept.length) h1
            rw [List.take_take, Nat.min_eq_left (by simp)] at h2
            rw [h2]
            simp)
        have hS := hrows.S
        have hup := kept_up (sKey wr w.heap.size) d' (fun i j hij hj => by
          have h1 := HSS.out i j (Nat.zero_le _) hij (by rw [← HSZ.out]; exact hj)
          have h2 := of_decide_eq_false h1
          have h3 := cmpL_neg (sKey wr w.heap.size d'[i]!) (sKey wr w.heap.size d'[j]!)
          unfold sCf at h2
          omega) d'.size (Nat.le_refl _)
        rw [HSZ.out, HK.out] at hup
        have hfin : (kept.map (·.1)).map (·.2) = sortU l0 := by
          rw [List.map_map]
          have hmem : ∀ x, x ∈ l0 ↔ ∃ y, y ∈ d.toList ∧ y.1.2 = x := fun x => by
            rw [← HM'.out, ← HD.out, List.map_map]
            simp
          have hpm : ∀ y, y ∈ d'.toList ↔ y ∈ d.toList := fun y => HP.out.mem_iff
          refine Up.eq_sortU hup.1 (fun x => (hup.2 x).trans ?_)
          rw [hmem x]
          constructor
          · rintro ⟨j, hj, rfl⟩
            have hj2 : j < d'.size := by rw [HSZ.out]; exact hj
            rw [getElem!_pos d' j hj2]
            exact ⟨d'[j], (hpm _).1 (by simp), rfl⟩
          · rintro ⟨y, hy, rfl⟩
            obtain ⟨j, hj, e⟩ := List.getElem_of_mem ((hpm y).2 hy)
            have hj2 : j < d'.size := by simpa using hj
            refine ⟨j, by rw [← HSZ.out]; exact hj2, ?_⟩
            rw [getElem!_pos d' j hj2]
            have e2 : d'[j] = y := by simpa using e
            rw [e2]
            rfl
        rw [hfin] at hS
        have hbel := putRow_below (sEnc wr w.heap.size) w (sortWorld (sEnc wr w.heap.size) wr w.heap.size 0 n d' os) w.heap.size 0 q (kept ++ List.replicate (es.length - kept.length) (sZero wr w.heap.size)).toArray (sortWorld_below _ w wr _ _ _ _ _ HB.out (Nat.le_refl _)) (Nat.le_refl _)
        rw [List.length_map, ← HEL.out] at hS
        exact ⟨_, rfl, hS, hbel⟩
  · rw [if_neg c2] at h
    exact absurd h (by simp)

end Go.Proofs.YtgejnljpdfjgpaaDoor.Q
