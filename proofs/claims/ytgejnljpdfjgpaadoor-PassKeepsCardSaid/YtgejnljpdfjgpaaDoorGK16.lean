/- PassKeeps: whatever the parts, the law answers true, and what comes in reads as it did. Its conditions: those of the card: three tables of the library start as the program's text lays them. -/
import Derived.Deep.QuietTactic
import Derived.BigQuiet
import Derived.SevenTiedAt
import Derived.Test.YtgejnljpdfjgpaaDoorGK2
import Derived.Test.YtgejnljpdfjgpaaDoorGK12
import Derived.Test.YtgejnljpdfjgpaaDoorGK14
import Derived.Test.YtgejnljpdfjgpaaDoorGK15
set_option linter.unusedVariables false
set_option linter.unusedSimpArgs false
/- PassKeeps' walk: at any parts it answers true. Its conditions: the parts are read at the call; strconv's table reads as it was laid. -/
namespace Go.Proofs.YtgejnljpdfjgpaaDoor.Q
open Go.RowKit Go.Proofs Go.Proofs.YtgejnljpdfjgpaaDoorW.PrintWords Go.Proofs.YtgejnljpdfjgpaaDoorW.PrintLast Go.Proofs.YtgejnljpdfjgpaaDoorW.PrintMore
set_option linter.unusedVariables false
set_option linter.unusedSimpArgs false

/-- A world in which what is at hand reads as it did. -/
structure LaterW (w : World) where
  at_ : World
  below : Below w.heap.size w at_
instance (w : World) : Nonempty (LaterW w) := ⟨⟨w, Below.refl _ _⟩⟩
/-- A region that draws its order, whose operations answer alike in every world in which what is at hand reads as it did: walked once, in the text's order. -/
theorem wp_region_quiet_later {P : Program} {id : Nat} {Q : Exit → Act → World → Prop} {a : Act} {w : World} {l : List Oper} (hm : P.follows .mixedOrders = true) (hB : Region.lexB .any l.toArray = true)
    (h : wpQuiet P l.toArray (fun w' => ∃ n : LaterW w, w' = n.at_) (fun a' => ∀ w', (∃ n : LaterW w, w' = n.at_) → Q .normal a' w') l a) : (Code.region id l.toArray true).wp P Q a w :=
  wp_region_quiet (C := fun w' => ∃ n : LaterW w, w' = n.at_) hm hB ⟨⟨_, below_drew (Below.refl _ _)⟩, rfl⟩ (by simpa using h)

/-! #### relations that are the same -/
theorem ref_Same_self (s : List Int) (rows : List (List Int)) (hs : s.length ≤ 1000) (hr : rows.length ≤ 1000) (hB : ∀ t ∈ rows, t.length ≤ 1000) : arboristref02_Same.f 5000 s rows s rows = some true := by
  unfold arboristref02_Same.f
  rw [if_pos rfl, ref_Compare_eq s s (by omega) 5000 (by omega), cmpL_self]
  simp only [Option.bind_some]
  show arboristref02_Same.j0 (4999 + 1) false s rows s rows = _
  simp only [arboristref02_Same.j0]
  rw [if_neg (by simp)]
  have hl : ∀ (d k i : Nat), rows.length - i = d → i ≤ rows.length → d + 2010 < k → arboristref02_Same.l0 k (i : Int) s rows s rows = some true := by
    intro d
    induction d with
    | zero =>
      intro k i h1 h2 hk
      obtain ⟨k, rfl⟩ : ∃ m, k = m + 1 := ⟨k - 1, by omega⟩
      simp only [arboristref02_Same.l0]
      rw [if_neg (by omega)]
    | succ d ih =>
      intro k i h1 h2 hk
      obtain ⟨k, rfl⟩ : ∃ m, k = m + 1 := ⟨k - 1, by omega⟩
      have hx := hB _ (List.getElem_mem (show i < rows.length by omega))
      simp only [arboristref02_Same.l0]
      rw [if_pos (by omega), if_pos (by omega), if_pos (by omega), rdL_nat rows i (by omega), ref_Compare_eq _ _ (by omega) k (by omega), cmpL_self]
      simp only [Option.bind_some, if_true]
      rw [wrap_nat i (by omega)]
      exact ih k (i + 1) (by omega) (by omega) (by omega)
  have := hl rows.length 4999 0 (by omega) (by omega) (by omega)
  rw [show ((0 : Nat) : Int) = 0 from rfl] at this
  exact this
/-- Few rows of few numbers. -/
structure Tiny (x : S36) : Prop where
  sch : x.f0.length ≤ 1000
  rows : x.f1.length ≤ 1000
  each : ∀ t ∈ x.f1, t.length ≤ 1000
theorem law_same_self (xs : List S36) (hl : xs.length ≤ 1000) (h : ∀ x ∈ xs, Tiny x) : arboristlaw16_same.f 7000 xs xs = some true := by
  unfold arboristlaw16_same.f
  rw [if_pos rfl]
  have hm : ∀ (k : Nat) (x : S36), x ∈ xs → 5000 ≤ k → arboristref02_Same.f k x.f0 x.f1 x.f0 x.f1 = some true := by
    intro k x hx hk
    have h0 := ref_Same_self x.f0 x.f1 (h x hx).sch (h x hx).rows (h x hx).each
    obtain ⟨d, rfl⟩ : ∃ d, k = 5000 + d := ⟨k - 5000, by omega⟩
    clear hk
    induction d with
    | zero => exact h0
    | succ d ih => exact arboristref02_Same.mono _ _ _ _ _ _ ih
  have hl2 : ∀ (d k i : Nat), xs.length - i = d → i ≤ xs.length → d + 5000 < k → arboristlaw16_same.l0 k xs xs (i : Int) = some true := by
    intro d
    induction d with
    | zero =>
      intro k i h1 h2 hk
      obtain ⟨k, rfl⟩ : ∃ m, k = m + 1 := ⟨k - 1, by omega⟩
      simp only [arboristlaw16_same.l0]
      rw [if_neg (by omega)]
    | succ d ih =>
      intro k i h1 h2 hk
      obtain ⟨k, rfl⟩ : ∃ m, k = m + 1 := ⟨k - 1, by omega⟩
      have hx : rd_T36 xs (i : Int) ∈ xs := by
        have e : rd_T36 xs (i : Int) = xs[i]'(by omega) := by simp [rd_T36, show i < xs.length by omega]
        rw [e]; exact List.getElem_mem _
      simp only [arboristlaw16_same.l0]
      rw [if_pos (by omega), if_pos (by omega), if_pos (by omega), hm k _ hx (by omega)]
      simp only [Option.bind_some, if_true]
      rw [wrap_nat i (by omega)]
      exact ih k (i + 1) (by omega) (by omega) (by omega)
  have := hl2 xs.length 7000 0 (by omega) (by omega) (by omega)
  rw [show ((0 : Nat) : Int) = 0 from rfl] at this
  exact this
theorem relL_tiny (p : S41) : Tiny (relL p) := by
  have h1 := schemeL_len p.f1
  refine ⟨by show (schemeL p.f1).length ≤ _; omega, ?_, fun t ht => ?_⟩
  · have h2 := len_sortU (rowsL (schemeL p.f1).length p.f2)
    have h3 := List.length_take_le 12 p.f2
    show (sortU _).length ≤ _
    have : (rowsL (schemeL p.f1).length p.f2).length = (p.f2.take 12).length := by simp [rowsL]
    omega
  · have := mem_sortU.1 ht
    obtain ⟨u, _, rfl⟩ := List.mem_map.1 this
    rw [len_rowL]
    omega

/-! #### rows of numbers turned, all else as it was -/
structure IntTurned (base : Nat) (W0 W : World) : Prop where
  below : Below base W0 W
  other : ∀ (b : Nat) (cur : Array Value) (t : TypeId), W0.heap[b]? = some (.cells cur t (0, 0)) → t ≠ 3 → W.heap[b]? = some (.cells cur t (0, 0))
  ints : ∀ (b : Nat) (cur : Array Value), W0.heap[b]? = some (.cells cur 3 (0, 0)) → ∃ cur', W.heap[b]? = some (.cells cur' 3 (0, 0)) ∧ cur'.size = cur.size
theorem IntTurned.refl (base : Nat) (W : World) : IntTurned base W W := ⟨Below.refl _ _, fun _ _ _ h _ => h, fun _ cur h => ⟨cur, h, rfl⟩⟩
theorem IntTurned.drewN {base : Nat} {W0 W : World} (h : IntTurned base W0 W) (m : Nat) : IntTurned base W0 (W.drewN m) := ⟨pw_below_drewN h.below m, h.other, h.ints⟩
theorem IntTurned.drew {base : Nat} {W0 W : World} (h : IntTurned base W0 W) : IntTurned base W0 W.drew := ⟨h.below.drew, h.other, h.ints⟩
theorem IntTurned.store {base : Nat} {W0 W : World} (h : IntTurned base W0 W) {q : Nat} {cur : Array Value} (hq : W0.heap[q]? = some (.cells cur 3 (0, 0))) (hb : base ≤ q) (j : Nat) (u : Value) : IntTurned base W0 (W.setCell ⟨q, j, none⟩ u) := by
  refine ⟨h.below.setCell hb _, fun b c t hc ht => ?_, fun b c hc => ?_⟩
  · refine (Below.heap_setCell _ _ _ _ (fun e => ?_)).trans (h.other b c t hc ht)
    have e : b = q := e
    subst e
    rw [hq] at hc
    injection hc with hc
    injection hc with _ hc
    exact ht hc.symm
  · obtain ⟨c', h1, h2⟩ := h.ints b c hc
    by_cases e : b = q
    · subst e
      exact ⟨_, blk_set h1 j u, by simpa using h2⟩
    · exact ⟨c', (Below.heap_setCell _ _ _ _ e).trans h1, h2⟩

theorem rels_row {W : World} {base g : Nat} {rs : List RelEl} (h : RelsAt W base g rs) {i : Nat} {r : RelEl} (hi : rs[i]? = some r) : ∃ cur, W.heap[g]? = some (.cells cur 36 (0, 0)) ∧ cur[i * 2 + 1]? = some r.2.1 := by
  obtain ⟨cur, h1, _, h3⟩ := h.blk
  exact ⟨cur, h1, (h3 i r hi).2⟩
theorem rows_row {W : World} {base : Nat} {v : Value} {es : List El} (h : RowsOwn W base v es) {k : Nat} {p : El} (hk : es[k]? = some p) : ∃ q cap cur, v = .slice (some ⟨q, 0, none⟩) es.length cap ∧ W.heap[q]? = some (.cells cur 25 (0, 0)) ∧ cur[k]? = some p.1 := by
  have hl := (List.getElem?_eq_some_iff.1 hk).1
  rcases h.1.2 with ⟨_, h0⟩ | ⟨q, cap, cur, e, _, hb, _, _, _, htk⟩
  · omega
  · refine ⟨q, cap, cur, e, hb, ?_⟩
    have h1 : (es.map (·.1))[k]? = some p.1 := by rw [List.getElem?_map, hk]; rfl
    rw [← htk, List.getElem?_take] at h1
    split at h1
    · rw [← Array.getElem?_toList]; exact h1
    · cases h1
theorem el_row {W : World} {base : Nat} {p : El} (h : OwnEl W base p) {m : Nat} (hm : m < p.2.length) : ∃ q cap cur, p.1 = .slice (some ⟨q, 0, none⟩) p.2.length cap ∧ base ≤ q ∧ W.heap[q]? = some (.cells cur 3 (0, 0)) ∧ p.2.length ≤ cur.size := by
  have ho : W.ownsRow base 3 1 p.1 p.2.length (p.2.map (Value.int .i64)) := OwnEl.own (v := p.1) (xs := p.2) h
  rcases ho.2 with ⟨_, h0⟩ | ⟨q, cap, cur, e, hq, hb, h1, _, h2, _⟩
  · omega
  · exact ⟨q, cap, cur, e, hq, hb, by omega⟩

/-! #### a part of a row of relations -/
theorem mid1 (A : Option Addr) (n c i : Nat) (hi : i < n) (hc : n ≤ c) : ∃ A', (∀ W : World, (Instr.slice 28 (.slice A n c) (some (.int .i64 (i : Int))) (some (.int .i64 ((i : Int) + 1))) none).run Tryd.prog W = .ok (.slice A' 1 (c - i)) W) ∧
    ∀ (W : World) (ys : List S36), ys.length = n → k36.C W A n ys → k36.C W A' 1 [ys.getD i z36] := by
  obtain ⟨i0, hi0, hz0, hz1, hz2⟩ := info_parts info_rel
  refine ⟨if c = i then A else A.map (·.add (i * 2)), fun W => ?_, fun W ys hl h => ?_⟩
  · have := cut_mid (P := Tryd.prog) 28 36 .i64 .i64 Tryd.underlying28 hi0 2 hz1 A n c (i : Int) ((i : Int) + 1) (by omega) (by omega) (by omega) hc W
    have e1 : ((i : Int) + 1).toNat - (i : Int).toNat = 1 := by omega
    rw [e1, Int.toNat_natCast] at this
    exact this
  · subst hl
    have := Kd.C_mid (c := c) h (lo := i) (hi := i + 1) (by omega) (by omega) hc
    have e : (ys.take (i + 1)).drop i = [ys.getD i z36] := by
      rw [List.take_succ_eq_append_getElem hi, List.drop_append_of_le_length (by simp; omega), List.drop_eq_nil_of_le (by simp; omega), List.getD_eq_getElem?_getD, List.getElem?_eq_getElem hi]
      rfl
    rw [e] at this
    exact this
theorem to1 (A : Option Addr) (n c : Nat) (hi : 0 < n) (hc : n ≤ c) : (∀ W : World, (Instr.slice 28 (.slice A n c) none (some (.int .i64 1)) none).run Tryd.prog W = .ok (.slice A 1 c) W) ∧
    ∀ (W : World) (ys : List S36), ys.length = n → k36.C W A n ys → k36.C W A 1 [ys.getD 0 z36] := by
  obtain ⟨i0, hi0, hz0, hz1, hz2⟩ := info_parts info_rel
  refine ⟨fun W => ?_, fun W ys hl h => ?_⟩
  · exact cut_to (P := Tryd.prog) 28 36 .i64 Tryd.underlying28 hi0 A n c 1 (by omega) (by omega) hc W
  · subst hl
    have := Kd.C_take h (m := 1) (by omega)
    have e : ys.take 1 = [ys.getD 0 z36] := by
      cases ys with
      | nil => simp at hi
      | cons y ys => rfl
    rw [e] at this
    exact this
theorem same1 (A1 : Option Addr) (c1 : Nat) (A2 : Option Addr) (c2 : Nat) (x : S36) (w : World) (h1 : k36.C w A1 1 [x]) (hc1 : 1 ≤ c1) (h2 : k36.C w A2 1 [x]) (hc2 : 1 ≤ c2) (hx : Tiny x) :
    Calls Tryd.prog 11 #[.slice A1 1 c1, .slice A2 1 c2] w fun e w' => e = .returned (.bool true) ∧ Below w.heap.size w w' :=
  arboristlaw16_same.calls 7000 A1 c1 [x] A2 c2 [x] true w h1 hc1 h2 hc2 (law_same_self [x] (by simp) (fun y hy => by rw [List.mem_singleton.1 hy]; exact hx))

/-- Is bag i no parent of the first k bags? -/
def leafTo (par : List Int) (i k : Nat) : Bool := (par.take k).all fun p => decide (p ≠ (i : Int))
theorem leafTo_step (par : List Int) (i k : Nat) (hk : k < par.length) : leafTo par i (k + 1) = (leafTo par i k && decide (par.getD k 0 ≠ (i : Int))) := by
  unfold leafTo
  rw [List.take_succ_eq_append_getElem hk, List.all_append, List.getD_eq_getElem?_getD, List.getElem?_eq_getElem hk]
  simp
theorem leafTo_all {par : List Int} {i n : Nat} (hn : n = par.length) (h : leafTo par i n = true) : ∀ p ∈ par, p ≠ (i : Int) := fun p hp => by
  unfold leafTo at h
  rw [hn, List.take_length] at h
  exact of_decide_eq_true (List.all_eq_true.1 h p hp)

set_option maxHeartbeats 8000000 in
set_option maxRecDepth 100000 in
theorem law16_PassKeeps.calls (A0 : Option Addr) (c0 : Nat) (l : List S41) (w : World) (hr0 : Kd.C k41 w A0 l.length l) (hc0 : l.length ≤ c0) (hT : TabOk w) :
    Calls Tryd.prog 4 #[.slice A0 l.length c0] w fun e w' => e = .returned (.bool true) ∧ Below w.heap.size w w' := by
  have HR0 := Aside0.mk hr0
  have HC0 := Aside0.mk hc0
  have HT := Aside0.mk hT
  clear hr0 hc0 hT
  go_enter Tryd.func4, Tryd.ntmps4
  go_wp2_with fail
  refine (law16_shown.calls _ HT.out).mono ?_
  rintro e w1 ⟨rfl, hb1⟩
  have HB1 := Aside0.mk hb1
  clear hb1
  go_wp2_with fail
  refine (law16_shape.calls A0 c0 l _ (Kd.C_below HR0.out HB1.out) HC0.out).mono ?_
  rintro e w2 ⟨vb, vp, vo, bs, rs, rfl, hsh, hbs, hrs, hb2⟩
  have HB2 := Aside0.mk (below_step HB1.out hb2)
  have hlb : bs.length = (l.take 6).length := by have := congrArg List.length hbs; simpa [bagsOf] using this
  have hlr : rs.length = (l.take 6).length := by have := congrArg List.length hrs; simpa [relsOf] using this
  have hlp : (parsOf (l.take 6)).length = (l.take 6).length := parsOf_len _
  have hn6 : (l.take 6).length ≤ 6 := List.length_take_le 6 l
  obtain ⟨L0, L, ha0, ha1, hTree⟩ := tree_ok (bagsOf (l.take 6)) (parsOf (l.take 6)) (by omega) (parsOf_good _)
  have hgp := parsOf_good (l.take 6)
  obtain ⟨Ab, cb, eb, lb, gb⟩ := hsh.bags (by simp only [maxLen]; omega)
  obtain ⟨Ap, cp, ep, lp, gp⟩ := hsh.pars
  obtain ⟨Ao, co, eo, lo, go⟩ := hsh.rels (by simp only [maxLen]; omega)
  subst eb ep eo
  have hgood : ∀ x ∈ relsOf (l.take 6), RelGood x ∧ Tiny x := fun x hx => by
    obtain ⟨p, _, rfl⟩ := List.mem_map.1 hx
    exact ⟨relL_good p, relL_tiny p⟩
  have hxl : (relsOf (l.take 6)).length = rs.length := by rw [← hrs]; simp
  have hbl : (bagsOf (l.take 6)).length = bs.length := by rw [← hbs]; simp
  rw [hbs, ← hbl] at gb
  rw [hrs, ← hxl] at go
  rw [← hbl] at lb
  rw [← hxl] at lo
  rw [← hbl, ← hxl]
  clear hb2 hsh
  have hpx : (parsOf (l.take 6)).length = (relsOf (l.take 6)).length := by omega
  have hbx : (relsOf (l.take 6)).length = (bagsOf (l.take 6)).length := by omega
  have hx6 : (relsOf (l.take 6)).length ≤ 6 := by omega
  clear hlb hlr hlp hn6 hbl hxl hbs hrs
  generalize hEB : bagsOf (l.take 6) = bags at *
  generalize hEP : parsOf (l.take 6) = par at *
  generalize hEX : relsOf (l.take 6) = xs at *
  have HEP := Aside0.mk hEP
  have HEX := Aside0.mk hEX
  have HPX0 := Aside0.mk hpx
  have HBX0 := Aside0.mk hbx
  clear hEB hEP hEX hpx hbx
  have hb3 : Below w2.heap.size w2 (w2.alloc (.cells #[.slice Ab bags.length cb, .slice Ap par.length cp] 27)) := (Below.refl _ _).alloc (Nat.le_refl _) _
  have HTB2 := Aside0.mk (heap_alloc_new w2 (.cells #[.slice Ab bags.length cb, .slice Ap par.length cp] 27))
  have HB3 := Aside0.mk hb3
  clear hb3
  go_wp2_with fail
  refine (law16_shape.calls A0 c0 l _ (Kd.C_below HR0.out (below_step HB2.out HB3.out)) HC0.out).mono ?_
  rintro e w3 ⟨vb2, vp2, vo2, bs2, rs2, rfl, hsh2, hbs2, hrs2, hb4⟩
  rw [HEX.out] at hrs2
  rw [HEP.out] at hsh2
  have hlr2 : rs2.length = xs.length := by rw [← hrs2]; simp
  obtain ⟨Ao2, co2, eo2, lo2, go2⟩ := hsh2.rels (by simp only [maxLen]; omega)
  rw [hrs2, hlr2] at go2
  rw [hlr2] at eo2 lo2
  subst eo2
  obtain ⟨Ab2, cb2, eb2⟩ := own_slice hsh2.bag
  obtain ⟨Ap2, cp2, ep2⟩ := own_slice hsh2.par
  subst eb2 ep2
  have HB4 := Aside0.mk (below_step HB3.out hb4)
  clear hsh2 hbs2 hrs2 hlr2
  have htr4 := blk_below HTB2.out hb4
  clear HTB2 hb4
  have hpx := HPX0.out
  have hbx := HBX0.out
  have HA := Aside0.mk (And.intro ha0 ha1)
  have HTR := Aside0.mk hTree
  have HGPAR := Aside0.mk hgp
  have HG := Aside0.mk hgood
  have hst0 : ∀ s ∈ stepsOf par L0, 0 ≤ s.1 ∧ s.1.toNat < xs.length ∧ 0 ≤ s.2 ∧ s.2.toNat < xs.length := fun s hs => by have := HTR.out.st0 s hs; omega
  have hst1 : ∀ s ∈ stepsOf par L, 0 ≤ s.1 ∧ s.1.toNat < xs.length ∧ 0 ≤ s.2 ∧ s.2.toNat < xs.length := fun s hs => by have := HTR.out.st1 s hs; omega
  -- the second tree's block; from here on w4
  have hb5 : Below w3.heap.size w3 (w3.alloc (.cells #[.slice Ab2 bs2.length cb2, .slice Ap2 (par).length cp2] 27)) := (Below.refl _ _).alloc (Nat.le_refl _) _
  have HB5 := Aside0.mk (below_step HB4.out hb5)
  have HBW := Aside0.mk (below_step HB2.out HB5.out)
  have HC4 := Aside0.mk (And.intro (Kd.C_below gb HB5.out) (And.intro lb (And.intro (Kd.C_below gp HB5.out) (And.intro lp (And.intro (Kd.C_below go HB5.out) (And.intro lo (And.intro (Kd.C_below go2 hb5) lo2)))))))
  have HTB4 := Aside0.mk (blk_below htr4 hb5)
  have HPX := Aside0.mk hpx
  clear ha0 ha1 hTree hgp hgood gb lb gp lp go lo go2 lo2 hb5 htr4 HB4 HB5 HB3
  generalize hw4 : w3.alloc (.cells #[.slice Ab2 bs2.length cb2, .slice Ap2 par.length cp2] 27) = w4 at HBW HC4 HTB4
  have ht0 := (blk_cell HTB4.out 0).trans rfl
  have ht1 := (blk_cell HTB4.out 1).trans rfl
  have HUP := Aside0.mk (pass_Up.calls 60 60 Ab cb bags Ap cp par Ao co xs L0 L0 w4 HC4.out.1 HC4.out.2.1 HC4.out.2.2.1 HC4.out.2.2.2.1 HC4.out.2.2.2.2.1 hbx (by omega) HA.out.1 rfl HTR.out.in0 hst0 (fun x hx => (HG.out x hx).1) (HT.out.on HBW.out))
  have HDN := Aside0.mk (fun (W : World) (hW : Below w4.heap.size w4 W) => pass_Down.calls 60 60 Ab cb bags Ap cp par Ao co xs L0 L W (Kd.C_below HC4.out.1 hW) HC4.out.2.1 (Kd.C_below HC4.out.2.2.1 hW) HC4.out.2.2.2.1 (Kd.C_below HC4.out.2.2.2.2.1 hW) hbx (by omega) HA.out.1 HA.out.2 HTR.out.in1 hst1 (fun x hx => (HG.out x hx).1) (HT.out.on (below_step HBW.out hW)))
  have HBX := Aside0.mk hbx
  clear hst0 hst1 hbx hpx
  go_wp2_with fail
  refine HUP.out.mono ?_
  rintro e w5 ⟨ga, ra, rfl, hra, hma, hb6⟩
  have htr5 := blk_below HTB4.out hb6
  have HRA5 := Aside0.mk hra
  have HMA := Aside0.mk hma
  have HB6 := Aside0.mk hb6
  clear hra hma hb6 ht0 ht1 HUP
  have ht0 := (blk_cell htr5 0).trans rfl
  have ht1 := (blk_cell htr5 1).trans rfl
  clear htr5
  go_wp2_with fail
  refine (HDN.out w5 HB6.out).mono ?_
  rintro e w6 ⟨gb, rb, rfl, hrb, hmb, hb7⟩
  have HRA6 := Aside0.mk (HRA5.out.below hb7)
  have HB46 := Aside0.mk (below_step HB6.out hb7)
  have hC := hrb.reads
  have hul := (upL_good (stepsOf par L0) (fun x hx => (HG.out x hx).1) (fun s hs => by have := HTR.out.st0 s hs; have := HPX.out; omega)).2
  have hdl := (downL_good (stepsOf par L) (fun x hx => (HG.out x hx).1) (fun s hs => by have := HTR.out.st1 s hs; have := HPX.out; omega)).2
  have hrbl : rb.length = xs.length := by have := congrArg List.length hmb; rw [hdl] at this; simpa using this
  have hral : ra.length = xs.length := by have := congrArg List.length HMA.out; rw [hul] at this; simpa using this
  have hCa := HRA6.out.reads
  rw [hmb, hrbl] at hC
  rw [HMA.out, hral] at hCa
  have HCA := Aside0.mk (And.intro hCa hul)
  have HCB := Aside0.mk (And.intro hC hdl)
  have HRAL := Aside0.mk hral
  clear hrb hmb hC hul hdl hrbl hral hCa ht0 ht1 HDN HRA5 hb7
  have HTB6 := Aside0.mk (blk_below HTB4.out HB46.out)
  have hzz1 : ((xs.length : Int) != (xs.length : Int)) = false := by simp
  go_wp2
  go_loopw [12] (fun v12 wr => ∃ i : Nat, i ≤ xs.length ∧ v12 = .int .i64 i ∧ Aside0 (Below w6.heap.size w6 wr)) (fun v12 _ => xs.length - (intOf v12).toNat)
  case atStart => exact ⟨0, Nat.zero_le _, rfl, aside0 (Below.refl _ _)⟩
  case round =>
    clear hzz1
    obtain ⟨i, hi, rfl, HBO⟩ := hrel
    obtain ⟨wo, rfl⟩ : ∃ wo : World, wo = wr := ⟨_, rfl⟩
    by_cases hlt : i < xs.length
    · have hd1 : decide ((i : Int) < (xs.length : Int)) = true := decide_eq_true (by omega)
      have hd2 : decide (i < xs.length) = true := decide_eq_true hlt
      have HTBO := Aside0.mk (blk_below HTB6.out HBO.out)
      go_wp2
      go_loopw [13, 14] (fun v13 v14 wi => ∃ k : Nat, k ≤ xs.length ∧ v14 = .int .i64 k ∧ v13 = .bool (leafTo par i k) ∧ Aside0 (Below wo.heap.size wo wi)) (fun _ v14 _ => xs.length - (intOf v14).toNat)
      case atStart => exact ⟨0, Nat.zero_le _, rfl, rfl, aside0 (Below.refl _ _)⟩
      case round =>
        clear hd1 hd2
        obtain ⟨k, hk, rfl, rfl, HBI⟩ := hrel
        by_cases hkt : k < xs.length
        · have hd3 : decide ((k : Int) < (xs.length : Int)) = true := decide_eq_true (by omega)
          have hd4 : decide (k < xs.length) = true := decide_eq_true hkt
          have HSTP := Aside0.mk (leafTo_step par i k (by have := HPX.out; omega))
          generalize leafTo par i k = b at HSTP
          cases b with
          | false =>
            go_wp2
            go_roundw
            case rel => exact ⟨k + 1, by omega, by go_num, by rw [HSTP.out]; rfl, HBI⟩
            case measure => simp [intOf]; omega
          | true =>
            have ht1 := (blk_cell (blk_below HTBO.out HBI.out) 1).trans rfl
            obtain ⟨adp, ep, hxp⟩ := at_int (Kd.C_below HC4.out.2.2.1 (below_step (below_step HB46.out HBO.out) HBI.out)) k (by have := HPX.out; omega)
            subst ep
            have hk0 : (0 : Int) ≤ (k : Int) := by omega
            have hk1 : (k : Int) < (par.length : Int) := by have := HPX.out; omega
            generalize par.getD k 0 = p at hxp HSTP
            by_cases hp : p = (i : Int)
            · have hp1 : (p != (i : Int)) = false := by simp [hp]
              have hp2 : decide (p = (i : Int)) = true := decide_eq_true hp
              have HSF := Aside0.mk (show leafTo par i (k + 1) = false by rw [HSTP.out]; simp [hp])
              clear hp HSTP
              go_wp2
              go_roundw
              case rel => exact ⟨k + 1, by omega, by go_num, by rw [HSF.out], HBI⟩
              case measure => simp [intOf]; omega
            · have hp1 : (p != (i : Int)) = true := by simp [hp]
              have hp2 : decide (p = (i : Int)) = false := decide_eq_false hp
              have HSF := Aside0.mk (show leafTo par i (k + 1) = true by rw [HSTP.out]; simp [hp])
              clear hp HSTP
              go_wp2
              go_roundw
              case rel => exact ⟨k + 1, by omega, by go_num, by rw [HSF.out], HBI⟩
              case measure => simp [intOf]; omega
        · obtain rfl : k = xs.length := by omega
          have hd4 : decide (xs.length < xs.length) = false := decide_eq_false (by omega)
          have HLF := Aside0.mk (leafTo_all (par := par) (i := i) HPX.out.symm)
          have hxi : xs[i]? = some (xs.getD i z36) := by rw [List.getD_eq_getElem?_getD, List.getElem?_eq_getElem hlt]; rfl
          have HTY := Aside0.mk ((HG.out _ (List.mem_of_getElem? hxi)).2)
          obtain ⟨A1, hs1, HC1⟩ := mid1 (some ⟨ga, 0, none⟩) xs.length xs.length i hlt (Nat.le_refl _)
          obtain ⟨A2, hs2, HC2⟩ := mid1 Ao xs.length co i hlt HC4.out.2.2.2.2.2.1
          have HB6I := Aside0.mk (below_step HBO.out HBI.out)
          have HX := Aside0.mk (HC2 wr xs rfl (Kd.C_below HC4.out.2.2.2.2.1 (below_step HB46.out HB6I.out)))
          have HUI := Aside0.mk (fun (hl : leafTo par i xs.length = true) => show k36.C wr A1 1 [xs.getD i z36] from by
            have h1 := HC1 wr _ HCA.out.2 (Kd.C_below HCA.out.1 HB6I.out)
            have h2 := up_leaf (xs := xs) i (HLF.out hl) HTR.out.in0
            rw [List.getD_eq_getElem?_getD, h2, hxi] at h1
            exact h1)
          have hw0 : IntKind.i64.wrap ((i : Int) + 1) = (i : Int) + 1 := IntWalk.i64_in _ (by omega)
          have hw1 : (0 : Int) ≤ (i : Int) + 1 := by omega
          have hc1 : 1 ≤ xs.length - i := by omega
          have hc2 : 1 ≤ co - i := by have := HC4.out.2.2.2.2.2.1; omega
          have HCC := Aside0.mk (And.intro hc1 hc2)
          clear HC1 HC2 hxi hc1 hc2
          generalize leafTo par i xs.length = b at HUI ⊢
          go_wp2
          by_cases hi0 : i = 0
          · have hz1 : ((i : Int) == (0 : Int)) = true := by simp [hi0]
            have hz2 : decide ((i : Int) = (0 : Int)) = true := decide_eq_true (by omega)
            have hpos : 0 < xs.length := by omega
            have hs3 := (to1 (some ⟨gb, 0, none⟩) xs.length xs.length hpos (Nat.le_refl _)).1
            have hs4 := (to1 Ao xs.length co hpos HC4.out.2.2.2.2.2.1).1
            have HD0 := Aside0.mk (show k36.C wr (some ⟨gb, 0, none⟩) 1 [xs.getD 0 z36] from by
              have h1 := (to1 (some ⟨gb, 0, none⟩) xs.length xs.length hpos (Nat.le_refl _)).2 wr _ HCB.out.2 (Kd.C_below HCB.out.1 HB6I.out)
              have h2 := down_root (xs := xs) HGPAR.out HTR.out.in1
              rw [List.getD_eq_getElem?_getD, h2, ← List.getD_eq_getElem?_getD] at h1
              exact h1)
            have HX0 := Aside0.mk ((to1 Ao xs.length co hpos HC4.out.2.2.2.2.2.1).2 wr xs rfl (Kd.C_below HC4.out.2.2.2.2.1 (below_step HB46.out HB6I.out)))
            have HT0 := Aside0.mk (show Tiny (xs.getD 0 z36) from by have := HTY.out; rw [hi0] at this; exact this)
            have HCD := Aside0.mk (And.intro (show 1 ≤ xs.length from hpos) (show 1 ≤ co from by have := HC4.out.2.2.2.2.2.1; omega))
            clear hi0 hpos
            cases b with
            | false =>
              refine wp_region_quiet_later (by kernel_rfl) (by kernel_rfl) ?_
              repeat (first | go_big_quiet_skip | (go_big_quiet_want; go_big_quiet_op; go_big_quiet_on))
              go_big_quiet_want
              go_big_quiet_op
              apply Exists.intro
              refine ⟨fun n => ?_, ?_⟩
              · exact (same1 (some ⟨gb, 0, none⟩) xs.length Ao co _ _ (Kd.C_below HD0.out n.below) HCD.out.1 (Kd.C_below HX0.out n.below) HCD.out.2 HT0.out).mono fun e w' h => ⟨h.1, ⟨⟨w', below_step n.below h.2⟩, rfl⟩⟩
              go_big_quiet_on
              repeat (first | go_big_quiet_skip | (go_big_quiet_want; go_big_quiet_op; go_big_quiet_on))
              refine wpQuiet_nil ?_
              intro _ hw'
              obtain ⟨nq, hw''⟩ := hw'
              subst hw''
              have hwq := Aside0.mk nq.below
              generalize nq.at_ = wq at hwq ⊢
              clear nq
              go_wp2
              go_roundw
              case rel => exact ⟨i + 1, by omega, by go_num, aside0 (below_step HB6I.out hwq.out)⟩
              case measure => simp [intOf]; omega
            | true =>
              refine wp_region_quiet_later (by kernel_rfl) (by kernel_rfl) ?_
              repeat (first | go_big_quiet_skip | (go_big_quiet_want; go_big_quiet_op; go_big_quiet_on))
              go_big_quiet_want
              go_big_quiet_op
              apply Exists.intro
              refine ⟨fun n => ?_, ?_⟩
              · exact (same1 A1 (xs.length - i) A2 (co - i) _ _ (Kd.C_below (HUI.out rfl) n.below) HCC.out.1 (Kd.C_below HX.out n.below) HCC.out.2 HTY.out).mono fun e w' h => ⟨h.1, ⟨⟨w', below_step n.below h.2⟩, rfl⟩⟩
              go_big_quiet_on
              repeat (first | go_big_quiet_skip | (go_big_quiet_want; go_big_quiet_op; go_big_quiet_on))
              go_big_quiet_want
              go_big_quiet_op
              apply Exists.intro
              refine ⟨fun n => ?_, ?_⟩
              · exact (same1 (some ⟨gb, 0, none⟩) xs.length Ao co _ _ (Kd.C_below HD0.out n.below) HCD.out.1 (Kd.C_below HX0.out n.below) HCD.out.2 HT0.out).mono fun e w' h => ⟨h.1, ⟨⟨w', below_step n.below h.2⟩, rfl⟩⟩
              go_big_quiet_on
              repeat (first | go_big_quiet_skip | (go_big_quiet_want; go_big_quiet_op; go_big_quiet_on))
              refine wpQuiet_nil ?_
              intro _ hw'
              obtain ⟨nq, hw''⟩ := hw'
              subst hw''
              have hwq := Aside0.mk nq.below
              generalize nq.at_ = wq at hwq ⊢
              clear nq
              go_wp2
              go_roundw
              case rel => exact ⟨i + 1, by omega, by go_num, aside0 (below_step HB6I.out hwq.out)⟩
              case measure => simp [intOf]; omega
          · have hz1 : ((i : Int) == (0 : Int)) = false := by simp [hi0]
            have hz2 : decide ((i : Int) = (0 : Int)) = false := decide_eq_false (by omega)
            clear hi0
            cases b with
            | false =>
              refine wp_region_quiet_later (by kernel_rfl) (by kernel_rfl) ?_
              repeat (first | go_big_quiet_skip | (go_big_quiet_want; go_big_quiet_op; go_big_quiet_on))
              refine wpQuiet_nil ?_
              intro _ hw'
              obtain ⟨nq, hw''⟩ := hw'
              subst hw''
              have hwq := Aside0.mk nq.below
              generalize nq.at_ = wq at hwq ⊢
              clear nq
              go_wp2
              go_roundw
              case rel => exact ⟨i + 1, by omega, by go_num, aside0 (below_step HB6I.out hwq.out)⟩
              case measure => simp [intOf]; omega
            | true =>
              refine wp_region_quiet_later (by kernel_rfl) (by kernel_rfl) ?_
              repeat (first | go_big_quiet_skip | (go_big_quiet_want; go_big_quiet_op; go_big_quiet_on))
              go_big_quiet_want
              go_big_quiet_op
              apply Exists.intro
              refine ⟨fun n => ?_, ?_⟩
              · exact (same1 A1 (xs.length - i) A2 (co - i) _ _ (Kd.C_below (HUI.out rfl) n.below) HCC.out.1 (Kd.C_below HX.out n.below) HCC.out.2 HTY.out).mono fun e w' h => ⟨h.1, ⟨⟨w', below_step n.below h.2⟩, rfl⟩⟩
              go_big_quiet_on
              repeat (first | go_big_quiet_skip | (go_big_quiet_want; go_big_quiet_op; go_big_quiet_on))
              refine wpQuiet_nil ?_
              intro _ hw'
              obtain ⟨nq, hw''⟩ := hw'
              subst hw''
              have hwq := Aside0.mk nq.below
              generalize nq.at_ = wq at hwq ⊢
              clear nq
              go_wp2
              go_roundw
              case rel => exact ⟨i + 1, by omega, by go_num, aside0 (below_step HB6I.out hwq.out)⟩
              case measure => simp [intOf]; omega
    · obtain rfl : i = xs.length := by omega
      have hd2 : decide (xs.length < xs.length) = false := decide_eq_false (by omega)
      have HRA7 := Aside0.mk (HRA6.out.below HBO.out)
      have HB47 := Aside0.mk (below_step HB46.out HBO.out)
      go_wp2
      go_loopw [15] (fun v15 wx => ∃ i : Nat, i ≤ xs.length ∧ v15 = .int .i64 i ∧ Aside0 (IntTurned w4.heap.size wo wx)) (fun v15 _ => xs.length - (intOf v15).toNat)
      case atStart => exact ⟨0, Nat.zero_le _, rfl, aside0 (IntTurned.refl _ _)⟩
      case round =>
        clear hd2 hlt hi
        obtain ⟨i, hi, rfl, HTU⟩ := hrel
        obtain ⟨wx, rfl⟩ : ∃ wx : World, wx = wr := ⟨_, rfl⟩
        by_cases hlt : i < xs.length
        · have hd1 : decide ((i : Int) < (xs.length : Int)) = true := decide_eq_true (by omega)
          have hd3 : decide (i < xs.length) = true := decide_eq_true hlt
          have hj0 : (0 : Int) ≤ (i : Int) := by omega
          have hj1 : (i : Int) < (xs.length : Int) := by omega
          have hri : ra[i]? = some (ra[i]'(by have := HRAL.out; omega)) := List.getElem?_eq_getElem _
          generalize ra[i]'(by have := HRAL.out; omega) = r at hri
          obtain ⟨cura, ca1, ca2⟩ := rels_row HRA7.out hri
          have HOR := Aside0.mk (HRA7.out.own r (List.mem_of_getElem? hri)).2
          obtain ⟨Ar, cr, er, _, _⟩ := HOR.out.reads
          rw [er] at ca2
          have HCA1 := Aside0.mk (And.intro ca1 ca2)
          have hcx := (blk_cell (HTU.out.other _ _ _ ca1 (by decide)) (i * 2 + 1)).trans ca2
          have HER := Aside0.mk er
          have HEM := Aside0.mk (show r.2.2.2.length ≤ maxLen from by obtain ⟨A, c, e, hl, hC⟩ := HOR.out.reads; exact Kd.C_max hC)
          clear ca1 ca2 er hri
          obtain ⟨es, hes⟩ : ∃ es, r.2.2.2 = es := ⟨_, rfl⟩
          rw [hes] at HOR HCA1 hcx HER HEM
          have hem := HEM.out
          unfold maxLen at hem
          clear hes
          go_wp2
          clear hcx
          go_loopw [16] (fun v16 wy => ∃ k : Nat, k ≤ es.length ∧ v16 = .int .i64 k ∧ Aside0 (IntTurned w4.heap.size wo wy)) (fun v16 _ => es.length - (intOf v16).toNat)
          case atStart => exact ⟨0, Nat.zero_le _, rfl, HTU⟩
          case round =>
            obtain ⟨k, hk, rfl, HTV⟩ := hrel
            obtain ⟨wy, rfl⟩ : ∃ wy : World, wy = wr := ⟨_, rfl⟩
            have hcy := (blk_cell (HTV.out.other _ _ _ HCA1.out.1 (by decide)) (i * 2 + 1)).trans HCA1.out.2
            by_cases hkt : k < es.length
            · have hd5 : decide ((k : Int) < (es.length : Int)) = true := decide_eq_true (by omega)
              have hd6 : decide (k < es.length) = true := decide_eq_true hkt
              have hk0 : (0 : Int) ≤ (k : Int) := by omega
              have hk1 : (k : Int) < (es.length : Int) := by omega
              have hek : es[k]? = some es[k] := List.getElem?_eq_getElem hkt
              generalize es[k] = p at hek
              have HOP := Aside0.mk (HOR.out.2.1 p (List.mem_of_getElem? hek))
              obtain ⟨q, cap, curr, eq1, cq1, cq2⟩ := rows_row HOR.out hek
              obtain ⟨Ae, ce, ee, _, _⟩ := HOP.out.reads
              rw [ee] at cq2
              rw [HER.out] at eq1
              injection eq1 with eq1 _ eq2
              subst eq1 eq2
              have HCQ := Aside0.mk (And.intro cq1 cq2)
              have HEE := Aside0.mk ee
              have HPM := Aside0.mk (show p.2.length ≤ maxLen from by obtain ⟨A, c, e, hl, hC⟩ := HOP.out.reads; exact Kd.C_max hC)
              have hpm := HPM.out
              unfold maxLen at hpm
              clear cq1 cq2 ee hek
              go_wp2
              clear hcy
              go_loopw [17] (fun v17 wz => ∃ m : Nat, m ≤ p.2.length ∧ v17 = .int .i64 m ∧ Aside0 (IntTurned w4.heap.size wo wz)) (fun v17 _ => p.2.length - (intOf v17).toNat)
              case atStart => exact ⟨0, Nat.zero_le _, rfl, HTV⟩
              case round =>
                obtain ⟨m, hm, rfl, HTW⟩ := hrel
                have hcz := (blk_cell (HTW.out.other _ _ _ HCA1.out.1 (by decide)) (i * 2 + 1)).trans HCA1.out.2
                have hcq := (blk_cell (HTW.out.other _ _ _ HCQ.out.1 (by decide)) k).trans HCQ.out.2
                by_cases hmt : m < p.2.length
                · have hd7 : decide ((m : Int) < (p.2.length : Int)) = true := decide_eq_true (by omega)
                  have hd8 : decide (m < p.2.length) = true := decide_eq_true hmt
                  have hm0 : (0 : Int) ≤ (m : Int) := by omega
                  have hm1 : (m : Int) < (p.2.length : Int) := by omega
                  obtain ⟨q2, cap2, cur2, eq3, hq2, cz1, cz2⟩ := el_row HOP.out hmt
                  rw [HEE.out] at eq3
                  injection eq3 with eq3 _ eq4
                  subst eq3 eq4
                  obtain ⟨cur3, cw1, cw2⟩ := HTW.out.ints _ _ cz1
                  have hcm : wr.cell? ⟨q2, m, none⟩ = some (cur3[m]'(by omega)) := (blk_cell cw1 m).trans (Array.getElem?_eq_getElem _)
                  have hfm := blk_frozen cw1 m
                  have HST := Aside0.mk (HTW.out.store cz1 hq2 m (.int .i64 99))
                  clear hq2
                  go_wp2
                  go_roundw
                  case rel => exact ⟨m + 1, by omega, by go_num, HST⟩
                  case measure => simp [intOf]; omega
                · obtain rfl : m = p.2.length := by omega
                  have hd8 : decide (p.2.length < p.2.length) = false := decide_eq_false (by omega)
                  go_wp2
                  go_roundw
                  case rel => exact ⟨k + 1, by omega, by go_num, HTW⟩
                  case measure => simp [intOf]; omega
            · obtain rfl : k = es.length := by omega
              have hd6 : decide (es.length < es.length) = false := decide_eq_false (by omega)
              go_wp2
              go_roundw
              case rel => exact ⟨i + 1, by omega, by go_num, HTV⟩
              case measure => simp [intOf]; omega
        · obtain rfl : i = xs.length := by omega
          have hd2 : decide (xs.length < xs.length) = false := decide_eq_false (by omega)
          have HBF := Aside0.mk (HB47.out.trans HTU.out.below)
          have HSA := Aside0.mk (arboristlaw16_same.calls 7000 Ao co xs Ao2 co2 xs true wx (Kd.C_below HC4.out.2.2.2.2.1 HBF.out) HC4.out.2.2.2.2.2.1 (Kd.C_below HC4.out.2.2.2.2.2.2.1 HBF.out) HC4.out.2.2.2.2.2.2.2 (law_same_self xs (by omega) (fun x hx => (HG.out x hx).2)))
          go_wp2_with fail
          refine HSA.out.mono ?_
          rintro e w9 ⟨rfl, hb9⟩
          have HB9 := Aside0.mk hb9
          clear hb9
          go_wp2
          go_ret
          exact ⟨rfl, below_step HBW.out (below_step HBF.out HB9.out)⟩

end Go.Proofs.YtgejnljpdfjgpaaDoor.Q
/- PassKeeps: whatever the parts, the law answers true, and what comes in reads as it did. Its conditions: those of the card: three tables of the library start as the program's text lays them. -/
namespace Go.Proofs.YtgejnljpdfjgpaaDoor.Q
open Go.ChangeShapes Go.WideShapes Go.ChangeAt Go.RowKit Go.Proofs.YtgejnljpdfjgpaaDoorW.PrintWords Go.Proofs.YtgejnljpdfjgpaaDoorW.PrintLast Go.Proofs.YtgejnljpdfjgpaaDoorW.PrintMore

set_option maxRecDepth 100000 in
theorem Opens.part {H : Type} {enc : TypeId × Value → H} {W : World} : Opens enc W 41 k41 (fun _ => True) := fun fuel cs x h => by
  have hl : cs.length = 3 := (len_of Tryd.underlying41 h).trans (by kernel_rfl)
  obtain ⟨a, ha, _⟩ := field_of Tryd.underlying41 h (i := 0) rfl (Opens.int (k := .i64) Tryd.underlying3)
  obtain ⟨b, ⟨A1, c1, eb, l1, g1⟩, _⟩ := field_of Tryd.underlying41 h (i := 1) rfl Opens.ints
  obtain ⟨c, ⟨A2, c2, ec, l2, g2⟩, _⟩ := field_of Tryd.underlying41 h (i := 2) rfl Opens.rows
  match cs, hl with
  | [v0, v1, v2], _ =>
    have h0 : (Tryd.prog.cellsOf 3) = 1 := by kernel_rfl
    have h1 : (Tryd.prog.cellsOf 25) = 1 := by kernel_rfl
    have h2 : (Tryd.prog.cellsOf 24) = 1 := by kernel_rfl
    have ja : ([v0, v1, v2].drop 0).take (Tryd.prog.cellsOf 3) = [Value.int .i64 a] := ha
    have jb : ([v0, v1, v2].drop 1).take (Tryd.prog.cellsOf 25) = [Value.slice A1 b.length c1] := eb
    have jc : ([v0, v1, v2].drop 2).take (Tryd.prog.cellsOf 24) = [Value.slice A2 c.length c2] := ec
    rw [h0] at ja
    rw [h1] at jb
    rw [h2] at jc
    simp at ja jb jc
    clear ha eb ec h
    subst ja jb jc
    exact ⟨⟨a, b, c⟩, k41_mk W ⟨a, b, c⟩ l1 g1 l2 g2, trivial⟩
theorem Opens.parts {H : Type} {enc : TypeId × Value → H} {W : World} : Opens enc W 22 (Kd.slice 41 k41) (fun xs => ∀ x ∈ xs, True) := Opens.slice Tryd.underlying22 (by kernel_rfl) Opens.part

set_option maxRecDepth 100000 in
theorem keeps_contract (H : Type) (enc : TypeId × Value → H) (W : World) (base : Nat) (args : Array Value) (ds gs : List (DataW H)) (before : List MemPlace)
    (hval : ∀ (j : Nat) t v, Tryd.f4.params[j]? = some t → args[j]? = some v → Value.okWide Tryd.prog W .any base t v)
    (hW : DataW.Whole enc Tryd.prog Tryd.f4.params.toList Rows.passKeepsSpec.vars false W args.toList ds gs before) (hL : laidMetH Tryd.prog laid3 W) :
    Calls Tryd.prog 4 args W fun e W' => ∃ v, e = .returned v ∧ Rows.passKeepsSpec.post enc Tryd.prog Tryd.f4 false true false false W args v W' := by
  have hW' := hW
  obtain ⟨p, q, hA0, hV, rfl, hfz, hnd⟩ := hW
  have hA : DataW.TrodAll enc Tryd.prog W 0 (fun _ => true) true Tryd.f4.params.toList args.toList ds p := hA0
  rw [Tryd.params4] at hA hval
  obtain ⟨v0, vs0, d0, ds0, p0, q0, hargs, rfl, rfl, h0, r0⟩ := trodAll_cons hA
  obtain ⟨rfl, rfl, rfl⟩ := trodAll_nil r0
  obtain rfl : args = #[v0] := by cases args; simp_all
  obtain ⟨rfl, rfl⟩ := trodVars_none hV
  obtain ⟨a0, len0, cap0, rfl⟩ := okWide_slice Tryd.underlying22 (hval 0 22 v0 rfl rfl)
  have k0 := h0
  have lt0 : ∀ x ∈ p0, x.block < W.heap.size := by obtain ⟨m, hm⟩ := k0; exact DataW.trod_lt m _ _ _ hm
  obtain ⟨fuel, hf⟩ := h0
  obtain ⟨A, c, l, e0, hc, hC, _⟩ := Opens.arg Opens.parts hf
  injection e0 with e1 e2 e3
  subst e1 e2 e3
  clear hA0 hf
  refine (law16_PassKeeps.calls a0 cap0 l W hC hc (tabOk hL)).mono fun e W' ⟨he, bel⟩ => ?_
  subst he
  exact ⟨_, rfl, _, _, _, [], _, [], hW', trodAll_mk1 (shut_bool Tryd.underlying4 _), trodAll_cons_mk (Below.trod laidOut (by kernel_rfl) (of_decide_eq_true (by kernel_rfl)) k0 bel lt0) trodAll_mk0, rfl, bel.frame _, fun h => by cases h⟩

set_option maxRecDepth 100000 in
theorem keeps_laid_met (os : Os) : laidMet Tryd.prog laid3 ((laidWorld os).forCall (fun _ _ => 0) ⟨#[], #[.slice none 0 0], []⟩).memory :=
  laidMet_of_run' 8 (by kernel_rfl) (by kernel_rfl)
set_option maxRecDepth 100000 in
theorem keeps_reads (os : Os) {H : Type} (enc : TypeId × Value → H) : ∃ places, DataW.whole enc Tryd.prog ((laidWorld os).forCall (fun _ _ => 0) ⟨#[], #[.slice none 0 0], []⟩).memory Tryd.f4.params.toList Rows.passKeepsSpec.vars false #[Value.slice none 0 0].toList 8 = some ([.nil], [], places) :=
  ⟨[], by kernel_rfl⟩

set_option maxRecDepth 100000 in
theorem keeps_lifted (os : Os) (started : os.Started) (H : Type) (enc : TypeId × Value → H) (F : Stop.Interp) :
    ReturnsInHanded {} Tryd.checked os 4 .any ((OpenSpec.ofChange Rows.passKeepsSpec).preRow enc Tryd.prog Tryd.f4 Rows.passKeepsRow.domain false Rows.passKeepsRow.laid) (((OpenSpec.ofChange Rows.passKeepsSpec).at F).post enc Tryd.prog Tryd.f4 false true false false) := by
  obtain ⟨places, hx⟩ := keeps_reads os enc
  refine returnsInHanded_of_row (C := Tryd.checked) (s := OpenSpec.ofChange Rows.passKeepsSpec) own started (by kernel_rfl) Tryd.func4
    (witness_row_at (enc := enc) (C := Tryd.checked) false (laidWorld os) #[.slice none 0 0] rfl (by kernel_rfl) (by kernel_rfl) (by kernel_rfl)
      (OpenSpec.preRow_of_cond 8 hx (by kernel_rfl) (fun k hk => by cases hk) (by kernel_rfl) (keeps_laid_met os))) ?_
  intro W base args ds gs before hval hW _ _ _ hL _ _
  exact keeps_contract H enc W base args ds gs before hval hW hL

theorem keeps_said : Rows.PassKeepsSaid :=
  OpenClaim.holds_of_cond 4 Tryd.f4 rfl rfl rfl rfl rfl rfl rfl ⟨rfl, rfl, rfl, rfl, rfl⟩ rfl rfl rfl rfl rfl (by kernel_rfl) Tryd.func4 (by kernel_rfl)
    (of_decide_eq_true (by kernel_rfl)) (by unfold Func.isWrapper; first | (rw [if_pos (by decide +kernel)]; kernel_rfl) | (rw [if_neg (by decide +kernel)]; exact ⟨rfl, rfl⟩))
    (fun os started H enc _ F => by rw [OpenClaim.pre_eq_preRow]; exact keeps_lifted os started H enc F)

theorem keeps_plain (f : FuncId) (fn : Func) (hf : Tryd.pinned.checked.prog.funcNamed "arborist/arboristlaw16.PassKeeps" = some f) (hfn : Tryd.pinned.checked.prog.funcs[f]? = some fn) :
    false = Tryd.pinned.checked.prog.looks [] ∧ ∀ (j : Nat) t, fn.params[j]? = some t → Tryd.pinned.checked.prog.wantsStandIn t = false := by
  obtain rfl : f = 4 := Option.some.inj ((show Tryd.prog.funcNamed "arborist/arboristlaw16.PassKeeps" = some 4 by kernel_rfl).symm.trans hf) |>.symm
  obtain rfl : fn = Tryd.f4 := (Option.some.inj (Tryd.func4.symm.trans hfn)).symm
  refine ⟨by kernel_rfl, fun j t ht => ?_⟩
  rw [Tryd.params4] at ht
  have ht := Array.mem_of_getElem? ht
  simp at ht
  subst ht
  exact (show Tryd.prog.wantsStandIn 22 = false by kernel_rfl)
end Go.Proofs.YtgejnljpdfjgpaaDoor.Q
namespace Go.Proofs.YtgejnljpdfjgpaaDoor
/-- THE CARD. -/
theorem passKeeps_card : Rows.PassKeepsCardSaid :=
  Claim7.holds_tied_plain_at .later [] _ _ _ _ Q.keeps_said (fun _ h => by cases h) (by kernel_rfl) (fun _ h => by cases h) passKeeps_row_tie rfl ⟨rfl, rfl⟩ (by kernel_rfl) rfl Q.keeps_plain (by kernel_rfl)
#print axioms passKeeps_card
end Go.Proofs.YtgejnljpdfjgpaaDoor
