/- A part of the proof of this claim (part 5 of 15): contracts of callees and plain facts, each with its own conditions before its statement. -/
import Derived.Deep.RegionLaw
import Derived.Test.YtgejnljpdfjgpaaDoorGN2
import Derived.Test.YtgejnljpdfjgpaaDoorGN3
import Derived.Test.YtgejnljpdfjgpaaDoorGN4
/- tuple.Sort: the rows in order, each once, in memory of the call's own. Its conditions: the rows are read at the call; there are fewer than 2^40, each shorter than 2^44. -/
namespace Go.Proofs.YtgejnljpdfjgpaaDoor.Q
open Go.RowKit Go.Proofs Go.Proofs.YtgejnljpdfjgpaaDoorW.PrintWords Go.Proofs.YtgejnljpdfjgpaaDoorW.PrintLast Go.Proofs.YtgejnljpdfjgpaaDoorW.PrintMore
set_option linter.unusedVariables false
set_option linter.unusedSimpArgs false

/-- What is kept of a row that rises, and has some more than once. -/
theorem kept_up {α : Type} [Inhabited α] (key : α → List Int) (d : Array α) (hs : ∀ i j, i < j → j < d.size → cmpL (key d[i]!) (key d[j]!) ≤ 0) (m : Nat) (hm : m ≤ d.size) :
    Up ((Lib.keptUpTo (kpOf (fun x y => decide (key x = key y)) d) d m).map key) ∧ ∀ x, x ∈ (Lib.keptUpTo (kpOf (fun x y => decide (key x = key y)) d) d m).map key ↔ ∃ j, j < m ∧ key d[j]! = x := by
  induction m with
  | zero => exact ⟨by simp [Lib.keptUpTo, Up], fun x => by simp [Lib.keptUpTo]⟩
  | succ m ih =>
    obtain ⟨h1, h2⟩ := ih (by omega)
    rw [Lib.keptUpTo_succ]
    by_cases hk : kpOf (fun x y => decide (key x = key y)) d m = true
    · rw [if_pos hk, List.map_append]
      constructor
      · unfold Up
        rw [List.pairwise_append]
        refine ⟨h1, by simp, fun a ha b hb => ?_⟩
        obtain ⟨j, hj, rfl⟩ := (h2 a).1 ha
        have hb' : b = key d[m]! := by simpa using hb
        subst hb'
        have h3 := hs j m hj (by omega)
        have hk' : m = 0 ∨ ¬ key d[m]! = key d[m - 1]! := by simpa [kpOf] using hk
        rcases hk' with e | e
        · omega
        · rcases Nat.lt_or_ge j (m - 1) with hj2 | hj2
          · have h4 := hs j (m - 1) hj2 (by omega)
            have h5 := hs (m - 1) m (by omega) (by omega)
            rcases Int.lt_or_eq_of_le h5 with h5 | h5
            · rcases Int.lt_or_eq_of_le h4 with h4 | h4
              · exact cmpL_trans h4 h5
              · rw [cmpL_eq h4]; exact h5
            · exact absurd (cmpL_eq h5).symm e
          · have e2 : j = m - 1 := by omega
            subst e2
            rcases Int.lt_or_eq_of_le h3 with h5 | h5
            · exact h5
            · exact absurd (cmpL_eq h5).symm e
      · intro x
        rw [List.mem_append, h2 x]
        constructor
        · rintro (⟨j, hj, e⟩ | h)
          · exact ⟨j, by omega, e⟩
          · exact ⟨m, by omega, by simpa using Eq.symm (by simpa using h)⟩
        · rintro ⟨j, hj, e⟩
          by_cases hjm : j = m
          · subst hjm; exact .inr (by simp [e])
          · exact .inl ⟨j, by omega, e⟩
    · rw [if_neg hk, List.append_nil]
      refine ⟨h1, fun x => (h2 x).trans ⟨fun ⟨j, hj, e⟩ => ⟨j, by omega, e⟩, fun ⟨j, hj, e⟩ => ?_⟩⟩
      by_cases hjm : j = m
      · subst hjm
        have hk' : ¬ (j = 0 ∨ ¬ key d[j]! = key d[j - 1]!) := by simpa [kpOf] using hk
        exact ⟨j - 1, by omega, by rw [← e]; exact (Classical.byContradiction fun h => hk' (.inr fun h' => h h'.symm))⟩
      · exact ⟨j, by omega, e⟩

def tuple_Sort.f (l0 : List (List Int)) : Option (List (List Int)) := if l0.length < 1099511627776 ∧ l0.all (fun x => decide (x.length < 17592186044416)) = true then some (sortU l0) else none

/-- A row's element, told in worlds that turn nothing but block g. -/
def GoodEl (W1 : World) (g : Nat) (p : El) : Prop := ∃ A c, p.1 = .slice A p.2.length c ∧ p.2.length ≤ c ∧ ∀ W : World, (∀ k, k < W1.heap.size → k ≠ g → W.heap[k]? = W1.heap[k]?) → (Kd.int .i64).C W A p.2.length p.2
theorem GoodEl.nil (W1 : World) (g : Nat) : GoodEl W1 g (.slice none 0 0, []) := ⟨none, 0, rfl, by simp, fun W _ => Kd.C_nil _ _⟩
theorem GoodEl.of {W1 : World} {base g : Nat} {p : El} {cur : Array Value} (h : OwnEl W1 base p) (hg : W1.heap[g]? = some (.cells cur 25 (0, 0))) : GoodEl W1 g p := by
  obtain ⟨A, c, e, hc, _⟩ := h.reads
  refine ⟨A, c, e, hc, fun W hW => ?_⟩
  have h2 := h.step hg (by decide) hW
  obtain ⟨A', c', e', _, hC⟩ := h2.reads
  rw [e] at e'
  injection e' with e1 _ _
  rw [e1]
  exact hC

abbrev SEl (W1 : World) (g : Nat) := { p : El // GoodEl W1 g p }
instance (W1 : World) (g : Nat) : Inhabited (SEl W1 g) := ⟨⟨(.slice none 0 0, []), GoodEl.nil W1 g⟩⟩
def sZero (W1 : World) (g : Nat) : SEl W1 g := ⟨(.slice none 0 0, []), GoodEl.nil W1 g⟩
def sEnc (W1 : World) (g : Nat) (p : SEl W1 g) : Value := p.1.1
def sKey (W1 : World) (g : Nat) (p : SEl W1 g) : List Int := p.1.2
theorem sEnc_one (W1 : World) (g : Nat) : OneCell (sEnc W1 g) := fun p => by
  obtain ⟨A, c, e, _⟩ := p.2
  unfold sEnc
  rw [e]
  rfl
def sCf (W1 : World) (g : Nat) (x y : SEl W1 g) : Int := cmpL (sKey W1 g x) (sKey W1 g y)
theorem sSwo (W1 : World) (g : Nat) : Sort.SWO (ltOf (sCf W1 g)) where
  irrefl x := by simp [ltOf, sCf, cmpL_self]
  trans x y z h1 h2 := by
    have a := of_decide_eq_true h1
    have b := of_decide_eq_true h2
    exact decide_eq_true (cmpL_trans a b)
  ntrans x y z h1 h2 := by
    have h1 := of_decide_eq_false h1
    have h2 := of_decide_eq_false h2
    refine decide_eq_false ?_
    unfold sCf at h1 h2 ⊢
    have a := cmpL_neg (sKey W1 g x) (sKey W1 g y)
    have b := cmpL_neg (sKey W1 g y) (sKey W1 g z)
    have c := cmpL_neg (sKey W1 g x) (sKey W1 g z)
    have := cmpL_le_trans (a := sKey W1 g z) (b := sKey W1 g y) (c := sKey W1 g x) (by omega) (by omega)
    omega

theorem sCmp {W1 : World} {g : Nat} (x y : SEl W1 g) (W : World) (hW : ∀ k, k < W1.heap.size → k ≠ g → W.heap[k]? = W1.heap[k]?) :
    Calls Tryd.prog 56 #[sEnc W1 g x, sEnc W1 g y] W fun e w' => e = .returned (.int .i64 (sCf W1 g x y)) ∧ ∃ q, w' = W.drewN q := by
  obtain ⟨A, c, e, hc, hC⟩ := x.2
  obtain ⟨A', c', e', hc', hC'⟩ := y.2
  unfold sEnc sCf sKey
  rw [e, e']
  have hx := hC W hW
  have hl := Kd.C_max hx
  refine (tuple_Compare.calls (x.1.2.length + 1) A c x.1.2 A' c' y.1.2 _ W hx hc (hC' W hW) hc' (tuple_Compare_eq _ _ hl)).mono ?_
  · rintro e w' ⟨rfl, ⟨q, rfl⟩⟩
    exact ⟨rfl, q, rfl⟩

theorem sEq {W1 : World} {g : Nat} (x y : SEl W1 g) (W : World) (hW : ∀ k, k < W1.heap.size → k ≠ g → W.heap[k]? = W1.heap[k]?) :
    Calls Tryd.prog 38 #[sEnc W1 g x, sEnc W1 g y] W fun e w' => e = .returned (.bool (decide (sKey W1 g x = sKey W1 g y))) ∧ ∃ q, w' = W.drewN q := by
  obtain ⟨A, c, e, hc, hC⟩ := x.2
  obtain ⟨A', c', e', hc', hC'⟩ := y.2
  unfold sEnc sKey
  rw [e, e']
  have hx := hC W hW
  have hl := Kd.C_max hx
  refine (slices_Equal_int_int.calls (x.1.2.length + 1) A c x.1.2 A' c' y.1.2 _ W hx hc (hC' W hW) hc' (slices_Equal_eq _ _ hl)).mono ?_
  rintro e w' ⟨rfl, ⟨q, rfl⟩⟩
  exact ⟨rfl, q, rfl⟩

theorem RowsAt.below {W W' : World} {base g cap : Nat} {es : List El} (h : RowsAt W base g cap es) (hb : Below W.heap.size W W') : RowsAt W' base g cap es := by
  obtain ⟨cur, h1, h2⟩ := h.blk
  exact ⟨h.ge, ⟨cur, blk_below h1 hb, h2⟩, h.len, h.cap, fun p hp => (h.own p hp).below hb, h.apart⟩
theorem RowsAt.drewN {W : World} {base g cap : Nat} {es : List El} (h : RowsAt W base g cap es) (n : Nat) : RowsAt (W.drewN n) base g cap es := h.below (pw_below_drewN (Below.refl _ _) n)
theorem RowsAt.cell {W : World} {base g cap : Nat} {es : List El} (h : RowsAt W base g cap es) (i : Nat) (hi : i < es.length) : W.cell? ⟨g, i, none⟩ = some es[i].1 ∧ W.frozen? ⟨g, i, none⟩ = false := by
  obtain ⟨cur, h1, h2, h3⟩ := h.blk
  refine ⟨?_, blk_frozen h1 i⟩
  rw [blk_cell h1 i]
  have : (cur.toList.take es.length)[i]? = (es.map (·.1))[i]? := by rw [h3]
  rw [List.getElem?_take, if_pos hi] at this
  rw [← Array.getElem?_toList, this]
  simp [hi]
/-- An element that is new is stored. -/
theorem RowsAt.set {W : World} {base g cap : Nat} {es : List El} (h : RowsAt W base g cap es) (i : Nat) (hi : i < es.length) {v : Value} {x : List Int} (hv : OwnEl W base (v, x)) (hnew : ∀ k, v.ownBlock = some k → ∀ p ∈ es, p.1.ownBlock ≠ some k) :
    RowsAt (W.setCell ⟨g, i, none⟩ v) base g cap (es.set i (v, x)) := by
  obtain ⟨cur, h1, h2, h3⟩ := h.blk
  have hst : ∀ p, OwnEl W base p → OwnEl (W.setCell ⟨g, i, none⟩ v) base p := fun p hp => hp.step h1 (by decide) (fun k _ hk => Below.heap_setCell W ⟨g, i, none⟩ v k hk)
  refine ⟨h.ge, ⟨_, blk_set h1 i v, by simp [h2], ?_⟩, by simpa using h.len, h.cap, ?_, ?_⟩
  · rw [List.length_set, Array.toList_setIfInBounds, List.take_set, h3, List.map_set]
  · intro p hp
    rcases List.mem_or_eq_of_mem_set hp with hp | rfl
    · exact hst p (h.own p hp)
    · exact hst _ hv
  · intro a b p q hp hq hab k hk
    rw [List.getElem?_set] at hp hq
    by_cases ha : i = a
    · subst ha
      rw [if_pos rfl, if_pos hi] at hp
      obtain rfl := Option.some.inj hp
      rw [if_neg hab] at hq
      exact hnew k hk q (List.mem_of_getElem? hq)
    · rw [if_neg ha] at hp
      by_cases hb : i = b
      · subst hb
        rw [if_pos rfl, if_pos hi] at hq
        obtain rfl := Option.some.inj hq
        intro e
        exact hnew k e p (List.mem_of_getElem? hp) hk
      · rw [if_neg hb] at hq
        exact h.apart a b p q hp hq hab k hk
theorem RowsAt.made (w : World) (n : Nat) (hn : n ≤ maxLen) : RowsAt (w.alloc (.cells (madeCells #[.slice none 0 0] n) 25)) w.heap.size w.heap.size n (List.replicate n (.slice none 0 0, [])) := by
  refine ⟨Nat.le_refl _, ⟨_, heap_alloc_new w _, size_madeCells _ _, ?_⟩, by simp, hn, ?_, ?_⟩
  · apply List.ext_getElem
    · simp [madeCells]
    · intro i h1 h2
      simp [madeCells, Nat.mod_one]
  · intro p hp
    rw [List.eq_of_mem_replicate hp]
    exact OwnEl.nil _ _
  · intro i j p q hp hq _ k hk
    rw [List.eq_of_mem_replicate (List.mem_of_getElem? hp)] at hk
    simp [Value.ownBlock] at hk

theorem apart_iff (es : List El) : ApartEl es ↔ es.Pairwise fun p q => ∀ k, p.1.ownBlock = some k → q.1.ownBlock ≠ some k := by
  rw [List.pairwise_iff_getElem]
  constructor
  · intro h i j hi hj hij
    exact h i j _ _ (List.getElem?_eq_getElem hi) (List.getElem?_eq_getElem hj) (by omega)
  · intro h i j p q hp hq hne k hk e
    obtain ⟨hi, rfl⟩ := List.getElem?_eq_some_iff.1 hp
    obtain ⟨hj, rfl⟩ := List.getElem?_eq_some_iff.1 hq
    rcases Nat.lt_or_ge i j with h1 | h1
    · exact h i j hi hj h1 k hk e
    · exact h j i hj hi (by omega) k e hk

/-- What is kept of a permutation, behind the sort: a row of rows. -/
theorem RowsAt.kept {W1 W3 : World} {base g cap : Nat} {es : List El} (h : RowsAt W1 base g cap es) (hsz : es.length = cap) (l : List (SEl W1 g)) (hl : (l.map (·.1)).Sublist es ∨ ∃ m : List El, (l.map (·.1)).Sublist m ∧ m.Perm es)
    (hW : ∀ k, k < W1.heap.size → k ≠ g → W3.heap[k]? = W1.heap[k]?) {cur : Array Value} (hb : W3.heap[g]? = some (.cells cur 25 (0, 0))) (hc : cur.size = cap) (ht : cur.toList.take l.length = l.map (sEnc W1 g)) :
    RowsAt W3 base g cap (l.map (·.1)) := by
  obtain ⟨c1, hb1, _, _⟩ := h.blk
  obtain ⟨m, hs, hp⟩ : ∃ m : List El, (l.map (·.1)).Sublist m ∧ m.Perm es := by
    rcases hl with hl | hl
    · exact ⟨es, hl, List.Perm.refl _⟩
    · exact hl
  have hlen : l.length ≤ cap := by
    have h1 := hs.length_le
    have h2 := hp.length_eq
    simp at h1
    omega
  refine ⟨h.ge, ⟨cur, hb, hc, ?_⟩, by simpa using hlen, h.cap, ?_, ?_⟩
  · rw [List.length_map, ht, List.map_map]
    rfl
  · intro p hpm
    exact (h.own p (hp.mem_iff.1 (hs.mem hpm))).step hb1 (by decide) hW
  · rw [apart_iff]
    refine List.Pairwise.sublist hs ?_
    exact (hp.pairwise_iff (fun {p q} hpq k hk e => hpq k e hk)).2 ((apart_iff es).1 h.apart)

set_option maxHeartbeats 1000000 in
set_option maxRecDepth 100000 in
theorem tuple_Sort.calls (A0 : Option Addr) (c0 : Nat) (l0 : List (List Int)) (r : List (List Int)) (w : World) (hr0 : Kd.C (Kd.slice 3 (Kd.int .i64)) w A0 l0.length l0) (hc0 : l0.length ≤ c0) (h : tuple_Sort.f l0 = some r) :
    Calls Tryd.prog 49 #[.slice A0 l0.length c0] w fun e w' => ∃ v0_ : Value, e = .returned (v0_) ∧ Kd.S (Kd.slice 3 (Kd.int .i64)) 25 w' w.heap.size (fun _ => True) v0_ r ∧ Below w.heap.size w w' := by
  unfold tuple_Sort.f at h
  by_cases c2 : l0.length < 1099511627776 ∧ l0.all (fun x => decide (x.length < 17592186044416)) = true
  · rw [if_pos c2] at h
    obtain rfl := Option.some.inj h
    have hmk : ∀ W : World, (Instr.makeSlice 24 (.int .i64 (l0.length : Int)) (.int .i64 (l0.length : Int))).run Tryd.prog W = .ok (.slice (some ⟨W.heap.size, 0, none⟩) l0.length l0.length) (W.alloc (.cells (madeCells #[.slice none 0 0] l0.length) 25)) := fun W => by
      obtain ⟨i0, hi, hz0, hz1, hz2⟩ := info_parts info25
      have := run_make (P := Tryd.prog) W 24 25 i0 (.slice none 0 0) Tryd.underlying24 hi hz0 .i64 .i64 l0.length l0.length (by omega) (by omega) (by rw [hz2]; omega) (by omega)
      rw [hz1, Nat.mul_one, Int.toNat_natCast] at this
      exact this
    have HR0 := Aside0.mk hr0
    have HL := Aside0.mk c2.1
    have HA := Aside0.mk c2.2
    have hlm : l0.length < 1099511627776 := c2.1
    clear hr0 hc0 c2 h
    go_enter Tryd.func49, Tryd.ntmps49
    go_wp2
    go_loopw [11] (fun i wr => ∃ k : Nat, k ≤ l0.length ∧ i = .int .i64 k ∧ (∃ es : List El, Aside0 (RowsAt wr w.heap.size w.heap.size l0.length es) ∧ Aside0 (es.map (·.2) = l0.take k ++ List.replicate (l0.length - k) [])) ∧ Aside0 (Below w.heap.size w wr)) (fun i _ => l0.length - (intOf i).toNat)
    case atStart => exact ⟨0, Nat.zero_le _, rfl, ⟨_, aside0 (RowsAt.made w _ (by simp [maxLen]; omega)), aside0 (by simp)⟩, aside0 ((Below.refl _ _).alloc (Nat.le_refl _) _)⟩
    case round =>
      obtain ⟨k, hk, rfl, ⟨es, HE, HM⟩, HB⟩ := hrel
      clear hmk
      by_cases hlt : k < l0.length
      · have hd : decide ((k : Int) < (l0.length : Int)) = true := decide_eq_true (by omega)
        have hd2 : decide (k < l0.length) = true := decide_eq_true hlt
        obtain ⟨ad, A1, c1, e1, hx, hc1, hC1⟩ := at_sl HR0.out k hlt
        subst e1
        replace hx := (HB.out.cell (World.block_lt_of_cell? w _ hx)).trans hx
        have hel : es.length = l0.length := by
          have := congrArg List.length HM.out
          simp at this
          omega
        have HX := Aside0.mk (show slices_Clone_int_int.f (l0.getD k []) = some (l0.getD k []) from by
          have := List.all_eq_true.1 HA.out (l0.getD k []) (by rw [List.getD_eq_getElem?_getD, List.getElem?_eq_getElem hlt]; exact List.getElem_mem hlt)
          unfold slices_Clone_int_int.f
          rw [if_pos (of_decide_eq_true this)])
        have HX1 := Aside0.mk hc1
        have HX2 := Aside0.mk (Kd.C_below hC1 HB.out)
        clear hc1 hC1
        have HN := Aside0.mk (show (es.set k (Value.slice none 0 0, l0.getD k [])).map (·.2) = l0.take (k + 1) ++ List.replicate (l0.length - (k + 1)) [] from by
          rw [List.map_set, HM.out, List.take_succ_eq_append_getElem hlt]
          have : l0.length - k = (l0.length - (k + 1)) + 1 := by omega
          rw [this, List.replicate_succ, List.set_append_right _ _ (by simp; omega)]
          have e : k - (l0.take k).length = 0 := by simp; omega
          rw [e, List.set_cons_zero, List.append_assoc, List.singleton_append, List.getD_eq_getElem?_getD, List.getElem?_eq_getElem hlt]
          rfl)
        generalize hy : l0.getD k [] = y at hx HX HX1 HX2 HN
        clear hy
        have HEL := Aside0.mk hel
        clear hel
        go_wp2_with fail
        refine (slices_Clone_int_int.calls A1 c1 y y _ HX2.out HX1.out HX.out).mono ?_
        rintro e w1 ⟨v1, rfl, hv1, hb1⟩
        have HE1 := Aside0.mk (HE.out.below hb1)
        have HB1 := Aside0.mk (below_step HB.out hb1)
        have HV := Aside0.mk (OwnEl.of_R (Kd.R_lower hv1 HB.out.size))
        have HNW := Aside0.mk (show ∀ j, v1.ownBlock = some j → ∀ p ∈ es, p.1.ownBlock ≠ some j from fun j hj p hp e => by
          have h1 := (HE.out.own p hp).lt e
          have h2 := Kd.R_base hv1 j hj
          omega)
        obtain ⟨A2, c2, rfl⟩ := Kd.R_slice hv1
        obtain ⟨hce, hfz⟩ := HE1.out.cell k (by rw [HEL.out]; exact hlt)
        clear hv1 hb1 HE HB hx
        go_wp2
        go_roundw
        case rel => exact ⟨k + 1, by omega, by go_num, ⟨_, aside0 (HE1.out.set k (by rw [HEL.out]; exact hlt) HV.out HNW.out), aside0 (by have := HN.out; rw [List.map_set] at this ⊢; exact this)⟩, aside0 (HB1.out.setCell (Nat.le_refl _) _)⟩
        case measure => simp [intOf]; omega
      · have hke : k = l0.length := by omega
        subst hke
        have hd2 : decide (l0.length < l0.length) = false := decide_eq_false (by omega)
        have hel : es.length = l0.length := by
          have := congrArg List.length HM.out
          simp at this
          omega
        have HM' := Aside0.mk (show es.map (·.2) = l0 from by have := HM.out; rw [List.take_length, Nat.sub_self] at this; simpa using this)
        rw [← hel]
        have HEL := Aside0.mk hel
        clear hel hlt hd2 HM hk
        obtain ⟨cur, hcb, hcs, hct⟩ := HE.out.blk
        have hgood : ∀ p ∈ es, GoodEl wr w.heap.size p := fun p hp => GoodEl.of (HE.out.own p hp) hcb
        obtain ⟨d, HD⟩ : ∃ d : Array (SEl wr w.heap.size), Aside0 (d.toList.map (·.1) = es) := ⟨(es.pmap (fun p h => (⟨p, h⟩ : SEl wr w.heap.size)) hgood).toArray, aside0 (by simp [List.map_pmap])⟩
        have hds : d.size = es.length := by rw [← HD.out]; simp
        have hH : Sort.Holds (sEnc wr w.heap.size) wr w.heap.size 0 d := fun j hj => by
          have hj2 : j < es.length := by omega
          have := HE.out.cell j hj2
          rw [Nat.zero_add, getElem!_pos d j hj]
          refine ⟨this.1.trans ?_, this.2⟩
          have e : es[j] = d[j].1 := by
            have h2 : (d.toList.map (·.1))[j]? = es[j]? := by rw [HD.out]
            rw [List.getElem?_map, Array.getElem?_toList, Array.getElem?_eq_getElem hj, List.getElem?_eq_getElem hj2] at h2
            exact (Option.some.inj h2).symm
          rw [e]
          rfl
        have hS := Tryd.slices_SortFunc (sEnc wr w.heap.size) (sEnc_one wr w.heap.size) (sCf wr w.heap.size) (sSwo wr w.heap.size) 56 #[] w.heap.size 0 es.length d wr (enters_of Tryd.func56 (by kernel_rfl) rfl)
          (CmpReads.lays (fun m os dk hs x y => sCmp x y _ (fun k hk hne => sortWorld_heap _ _ _ _ _ _ _ k hk hne))) hH (blk_lt hcb) (by have := HEL.out; omega)
        rw [hds] at hS
        have HS := Aside0.mk hS
        have HCB := Aside0.mk hcb
        have HCS := Aside0.mk hcs
        have HDS := Aside0.mk hds
        have HH := Aside0.mk hH
        clear hS hcb hcs hct hgood hds hH
        go_wp2_with fail
        refine HS.out.mono ?_
        rintro e W2 ⟨rfl, d', n, os, hp, hs, rfl⟩
        have hsz' : d'.size = es.length := hp.1.trans HDS.out
        have hperm : d'.toList.Perm d.toList := by
          have h3 := hp.2.2
          rw [← HDS.out] at h3
          have e1 : d'.extract 0 d.size = d' := by rw [← hp.1]; simp
          have e2 : d.extract 0 d.size = d := by simp
          rw [e1, e2] at h3
          exact h3
        have hcur2 := sortWorld_blk (sEnc wr w.heap.size) wr w.heap.size 0 n d' os HCB.out
        have hC := slices_CompactFunc_rows (sEnc wr w.heap.size) (sEnc_one wr w.heap.size) (fun x y => decide (sKey wr w.heap.size x = sKey wr w.heap.size y)) (sZero wr w.heap.size) rfl w.heap.size 0 es.length d' (sortWorld (sEnc wr w.heap.size) wr w.heap.size 0 n d' os)
          (fun q dk hs x y => sEq x y _ (fun k hk hne => (putRow_heap _ _ _ _ _ _ k hne).trans (sortWorld_heap _ _ _ _ _ _ _ k hk hne)))
          (fun j hj => by
            have := Sort.holds_putRow (sEnc wr w.heap.size) (Sort.ahead wr n) w.heap.size 0 d d' (Sort.holds_ahead _ _ _ _ _ _ HH.out) (by rw [hsz', HDS.out]) j hj
            have hlt : w.heap.size < (Sort.putRow (sEnc wr w.heap.size) (Sort.ahead wr n) w.heap.size 0 d').heap.size := by rw [putRow_size]; exact blk_lt HCB.out
            exact ⟨(Sort.cell?_grow _ _ _ hlt).trans this.1, (Sort.frozen?_grow _ _ _ hlt).trans this.2⟩)
          (by have := HEL.out; omega) (by omega)
        rw [hsz'] at hC
        have HC := Aside0.mk hC
        have HP := Aside0.mk hperm
        have HSS := Aside0.mk hs
        have HSZ := Aside0.mk hsz'
        have HC2 := Aside0.mk hcur2
        clear hC hperm hs hp hsz' hcur2 HS
        go_wp2_with fail
        refine HC.out.mono ?_
        rintro e W3 ⟨rfl, q, rfl⟩
        obtain ⟨kept, HK⟩ : ∃ kept, Aside0 (Lib.keptUpTo (kpOf (fun x y => decide (sKey wr w.heap.size x = sKey wr w.heap.size y)) d') d' es.length = kept) := ⟨_, aside0 rfl⟩
        rw [HK.out]
        go_wp2
        go_ret
        have hkl : kept.length ≤ d'.size := by
          have h1 : kept.Sublist ((List.range es.length).map (d'[·]!)) := by
            rw [← HK.out]
            exact List.Sublist.map _ List.filter_sublist
          have := h1.length_le
          simpa [HSZ.out] using this
        have hsub : kept.Sublist d'.toList := by
          have h1 : kept.Sublist ((List.range es.length).map (d'[·]!)) := by
            rw [← HK.out]
            exact List.Sublist.map _ List.filter_sublist
          rw [← HSZ.out, Lib.range_map_get] at h1
          exact h1
        have hrows := RowsAt.kept HE.out HEL.out kept (.inr ⟨d'.toList.map (·.1), hsub.map _, by rw [← HD.out]; exact HP.out.map _⟩)
          (W3 := Sort.putRow (sEnc wr w.heap.size) (Sort.ahead (sortWorld (sEnc wr w.heap.size) wr w.heap.size 0 n d' os) q) w.heap.size 0 (kept ++ List.replicate (es.length - kept.length) (sZero wr w.heap.size)).toArray)
          (fun k hk hne => (putRow_heap _ _ _ _ _ _ k hne).trans (sortWorld_heap _ _ _ _ _ _ _ k hk hne)) (putRow_blk _ _ _ _ _ _ HC2.out) (by simp [Sort.putCells, HCS.out])
          (by
            have h1 := putCells_take (sEnc wr w.heap.size) (kept ++ List.replicate (es.length - kept.length) (sZero wr w.heap.size)).toArray (Sort.putCells (sEnc wr w.heap.size) 0 d' cur) (by have := HSZ.out; have := HCS.out; have := HEL.out; simp [Sort.putCells]; omega)
            have h2 := congrArg (List.take kept.length) h1
            rw [List.take_take, Nat.min_eq_left (by simp)] at h2
            rw [h2]
            simp)
        have hS := hrows.S
        have hup := kept_up (sKey wr w.heap.size) d' (fun i j hij hj => by
          have h1 := HSS.out i j (Nat.zero_le _) hij (by rw [← HSZ.out]; exact hj)
          have h2 := of_decide_eq_false h1
          have h3 := cmpL_neg (sKey wr w.heap.size d'[i]!) (sKey wr w.heap.size d'[j]!)
          unfold sCf at h2
          omega) d'.size (Nat.le_refl _)
        rw [HSZ.out, HK.out] at hup
        have hfin : (kept.map (·.1)).map (·.2) = sortU l0 := by
          rw [List.map_map]
          have hmem : ∀ x, x ∈ l0 ↔ ∃ y, y ∈ d.toList ∧ y.1.2 = x := fun x => by
            rw [← HM'.out, ← HD.out, List.map_map]
            simp
          have hpm : ∀ y, y ∈ d'.toList ↔ y ∈ d.toList := fun y => HP.out.mem_iff
          refine Up.eq_sortU hup.1 (fun x => (hup.2 x).trans ?_)
          rw [hmem x]
          constructor
          · rintro ⟨j, hj, rfl⟩
            have hj2 : j < d'.size := by rw [HSZ.out]; exact hj
            rw [getElem!_pos d' j hj2]
            exact ⟨d'[j], (hpm _).1 (by simp), rfl⟩
          · rintro ⟨y, hy, rfl⟩
            obtain ⟨j, hj, e⟩ := List.getElem_of_mem ((hpm y).2 hy)
            have hj2 : j < d'.size := by simpa using hj
            refine ⟨j, by rw [← HSZ.out]; exact hj2, ?_⟩
            rw [getElem!_pos d' j hj2]
            have e2 : d'[j] = y := by simpa using e
            rw [e2]
            rfl
        rw [hfin] at hS
        have hbel := putRow_below (sEnc wr w.heap.size) w (sortWorld (sEnc wr w.heap.size) wr w.heap.size 0 n d' os) w.heap.size 0 q (kept ++ List.replicate (es.length - kept.length) (sZero wr w.heap.size)).toArray (sortWorld_below _ w wr _ _ _ _ _ HB.out (Nat.le_refl _)) (Nat.le_refl _)
        rw [List.length_map, ← HEL.out] at hS
        exact ⟨_, rfl, hS, hbel⟩
  · rw [if_neg c2] at h
    exact absurd h (by simp)

end Go.Proofs.YtgejnljpdfjgpaaDoor.Q
/- A row of relations that the call owns: its block's cells, and of each the schemes and rows that it leads to. -/
namespace Go.Proofs.YtgejnljpdfjgpaaDoor.Q
open Go.RowKit Go.Proofs Go.Proofs.YtgejnljpdfjgpaaDoorW.PrintWords Go.Proofs.YtgejnljpdfjgpaaDoorW.PrintLast Go.Proofs.YtgejnljpdfjgpaaDoorW.PrintMore
set_option linter.unusedVariables false
set_option linter.unusedSimpArgs false

theorem RowsOwn.at {W : World} {base g n cap : Nat} {es : List El} (h : RowsOwn W base (.slice (some ⟨g, 0, none⟩) n cap) es) : RowsAt W base g cap es := by
  obtain ⟨h1, h2, h3⟩ := h
  rcases h1.2 with ⟨e, _⟩ | ⟨g1, c1, cur, e, hge, hb, hle, hcm, hsz, htk⟩
  · cases e
  · injection e with e1 e2 e3
    injection e1 with e1
    injection e1 with e1
    subst e1 e3
    exact ⟨hge, ⟨cur, hb, by simpa using hsz, by simpa using htk⟩, hle, hcm, h2, h3⟩
theorem RowsAt.rows {W : World} {base g cap : Nat} {es : List El} (h : RowsAt W base g cap es) : RowsOwn W base (.slice (some ⟨g, 0, none⟩) es.length cap) es := by
  obtain ⟨cur, hb, hsz, htk⟩ := h.blk
  exact ⟨⟨by simp, .inr ⟨g, cap, cur, rfl, h.ge, hb, h.len, h.cap, by simpa using hsz, by simpa using htk⟩⟩, h.own, h.apart⟩

abbrev RelEl := Value × Value × List Int × List El
def relOf (r : RelEl) : S36 := ⟨r.2.2.1, r.2.2.2.map (·.2)⟩
/-- The relation is the call's own. -/
def OwnRel (W : World) (base : Nat) (r : RelEl) : Prop := OwnEl W base (r.1, r.2.2.1) ∧ RowsOwn W base r.2.1 r.2.2.2
def zeroRel : RelEl := (.slice none 0 0, .slice none 0 0, [], [])
theorem OwnRel.zero (W : World) (base : Nat) : OwnRel W base zeroRel := ⟨OwnEl.nil _ _, RowsOwn.nil _ _⟩
theorem OwnRel.below {W W' : World} {base : Nat} {r : RelEl} (h : OwnRel W base r) (hb : Below W.heap.size W W') : OwnRel W' base r := ⟨h.1.below hb, h.2.below hb⟩
theorem OwnRel.lower {W : World} {b base : Nat} {r : RelEl} (h : OwnRel W b r) (hle : base ≤ b) : OwnRel W base r := ⟨h.1.lower hle, h.2.lower hle⟩
theorem OwnRel.apart {W W' : World} {base ob : Nat} {r : RelEl} (h : OwnRel W base r) (hg : W.grownBy W' (some ob)) (hr : RelBlk W ob) : OwnRel W' base r := by
  refine ⟨h.1.apart hg hr, own_other h.2.1 hg ?_, fun p hp => (h.2.2.1 p hp).apart hg hr, h.2.2.2⟩
  right
  intro e
  obtain ⟨cl, hcl⟩ := own_typed h.2.1 ob e
  obtain ⟨cs, e⟩ := hr _ hcl
  injection e with _ e
  exact absurd e (by decide)
theorem RowsOwn.reads {W : World} {base : Nat} {v : Value} {es : List El} (h : RowsOwn W base v es) : ∃ A c, v = .slice A es.length c ∧ es.length ≤ c ∧ (Kd.slice 3 (Kd.int .i64)).C W A es.length (es.map (·.2)) := by
  obtain ⟨A, c, e⟩ := own_slice h.1
  have hle : es.length ≤ c := by have := h.1; rw [e] at this; exact own_le this
  refine ⟨A, c, e, hle, ?_⟩
  rcases h.1.2 with ⟨e2, h0⟩ | ⟨g, cap, cur, e2, _⟩
  · rw [e] at e2
    injection e2 with e2 _ _
    subst e2
    have : es = [] := List.length_eq_zero_iff.1 h0
    subst this
    exact Kd.C_nil _ _
  · rw [e] at e2
    injection e2 with e2 _ e3
    subst e2
    subst e
    obtain ⟨A2, c2, e4, _, hC⟩ := Kd.R_reads (Kd.S_R h.at.S)
    injection e4 with e4
    subst e4
    simpa using hC

structure RelsAt (W : World) (base g : Nat) (rs : List RelEl) : Prop where
  ge : base ≤ g
  max : rs.length ≤ maxLen
  blk : ∃ cur, W.heap[g]? = some (.cells cur 36 (0, 0)) ∧ cur.size = rs.length * 2 ∧ ∀ i r, rs[i]? = some r → cur[i * 2]? = some r.1 ∧ cur[i * 2 + 1]? = some r.2.1
  own : ∀ r ∈ rs, OwnRel W base r

theorem RelsAt.below {W W' : World} {base g : Nat} {rs : List RelEl} (h : RelsAt W base g rs) (hb : Below W.heap.size W W') : RelsAt W' base g rs := by
  obtain ⟨cur, h1, h2⟩ := h.blk
  exact ⟨h.ge, h.max, ⟨cur, blk_below h1 hb, h2⟩, fun p hp => (h.own p hp).below hb⟩
theorem RelsAt.relBlk {W : World} {base g : Nat} {rs : List RelEl} (h : RelsAt W base g rs) : RelBlk W g := by
  obtain ⟨cur, h1, _⟩ := h.blk
  exact RelBlk.of h1
theorem RelsAt.lt {W : World} {base g : Nat} {rs : List RelEl} (h : RelsAt W base g rs) : g < W.heap.size := by
  obtain ⟨cur, h1, _⟩ := h.blk
  exact blk_lt h1
theorem RelsAt.cell {W : World} {base g : Nat} {rs : List RelEl} (h : RelsAt W base g rs) {i : Nat} {r : RelEl} (hi : rs[i]? = some r) :
    W.cell? ⟨g, i * 2, none⟩ = some r.1 ∧ W.cell? ⟨g, i * 2 + 1, none⟩ = some r.2.1 ∧ W.frozen? ⟨g, i * 2, none⟩ = false ∧ W.frozen? ⟨g, i * 2 + 1, none⟩ = false := by
  obtain ⟨cur, h1, _, h3⟩ := h.blk
  obtain ⟨h4, h5⟩ := h3 i r hi
  exact ⟨(blk_cell h1 _).trans h4, (blk_cell h1 _).trans h5, blk_frozen h1 _, blk_frozen h1 _⟩
/-- Another relation of the call's own is stored. -/
theorem RelsAt.put {W : World} {base g : Nat} {rs : List RelEl} (h : RelsAt W base g rs) (i : Nat) (hi : i < rs.length) {r : RelEl} (hr : OwnRel W base r) :
    RelsAt ((W.setCell ⟨g, i * 2, none⟩ r.1).setCell ⟨g, i * 2 + 1, none⟩ r.2.1) base g (rs.set i r) := by
  obtain ⟨cur, h1, h2, h3⟩ := h.blk
  have hg := (grown_setCell W g (i * 2) r.1).trans (grown_setCell _ g (i * 2 + 1) r.2.1)
  refine ⟨h.ge, by simpa using h.max, ⟨_, blk_set (blk_set h1 _ _) _ _, by simp [h2], ?_⟩, ?_⟩
  · intro j q hq
    rw [List.getElem?_set] at hq
    by_cases hij : i = j
    · subst hij
      rw [if_pos rfl, if_pos hi] at hq
      obtain rfl := Option.some.inj hq
      constructor
      · rw [Array.getElem?_setIfInBounds_ne (by omega), Array.getElem?_setIfInBounds_self_of_lt (by omega)]
      · rw [Array.getElem?_setIfInBounds_self_of_lt (by simp; omega)]
    · rw [if_neg hij] at hq
      obtain ⟨h4, h5⟩ := h3 j q hq
      constructor
      · rw [Array.getElem?_setIfInBounds_ne (by omega), Array.getElem?_setIfInBounds_ne (by omega), h4]
      · rw [Array.getElem?_setIfInBounds_ne (by omega), Array.getElem?_setIfInBounds_ne (by omega), h5]
  · intro q hq
    rcases List.mem_or_eq_of_mem_set hq with hq | rfl
    · exact (h.own q hq).apart hg (RelBlk.of h1)
    · exact hr.apart hg (RelBlk.of h1)
theorem RelsAt.made (w : World) (n : Nat) (hn : n ≤ maxLen) : RelsAt (w.alloc (.cells (madeCells #[.slice none 0 0, .slice none 0 0] (n * 2)) 36)) w.heap.size w.heap.size (List.replicate n zeroRel) := by
  refine ⟨Nat.le_refl _, by simpa using hn, ⟨_, heap_alloc_new w _, by simp [size_madeCells], ?_⟩, fun r hr => by rw [List.eq_of_mem_replicate hr]; exact OwnRel.zero _ _⟩
  intro i r hi
  obtain ⟨h1, h2⟩ := List.getElem?_eq_some_iff.1 hi
  simp at h1 h2
  subst h2
  constructor
  · rw [Array.getElem?_eq_getElem (by simp [size_madeCells]; omega)]
    simp [madeCells, zeroRel]
  · rw [Array.getElem?_eq_getElem (by simp [size_madeCells]; omega)]
    simp [madeCells, zeroRel]
theorem add0 (g n : Nat) : (⟨g, 0, none⟩ : Addr).add n = ⟨g, n, none⟩ := by
  unfold Addr.add
  split <;> simp_all
theorem RelsAt.reads {W : World} {base g : Nat} {rs : List RelEl} (h : RelsAt W base g rs) : Kd.C k36 W (some ⟨g, 0, none⟩) rs.length (rs.map relOf) := by
  refine ⟨by simp, h.max, fun hpos => ⟨⟨g, 0, none⟩, rfl, ?_⟩⟩
  intro j p hp
  rw [List.getElem?_map] at hp
  obtain ⟨r, hr, rfl⟩ := Option.map_eq_some_iff.1 hp
  obtain ⟨hc1, hc2, _, _⟩ := h.cell hr
  obtain ⟨h1, h2⟩ := h.own r (List.mem_of_getElem? hr)
  obtain ⟨A1, c1, e1, l1, g1⟩ := h1.reads
  obtain ⟨A2, c2, e2, l2, g2⟩ := h2.reads
  have e1 : r.1 = .slice A1 r.2.2.1.length c1 := e1
  refine ⟨[r.1, r.2.1], rfl, ?_, ?_⟩
  · rw [e1, e2]
    have hl : r.2.2.2.length = (relOf r).f1.length := by simp [relOf]
    rw [hl] at l2 g2 ⊢
    exact k36_mk W (relOf r) l1 g1 l2 g2
  · intro i u hu
    have hsz : k36.sz = 2 := rfl
    rw [hsz]
    match i, hu with
    | 0, hu => simp at hu; subst hu; rw [add0]; exact hc1
    | 1, hu => simp at hu; subst hu; rw [add0]; exact hc2
    | n + 2, hu => simp at hu


/-- One relation's rows turn, in a block of their own. -/
theorem RelsAt.turn {W W' : World} {base g gr : Nat} {rs : List RelEl} {i : Nat} {r0 : RelEl} {es : List El} {cur : Array Value} (h : RelsAt W base g rs) (hi : rs[i]? = some r0) (hg : W.heap[gr]? = some (.cells cur 25 (0, 0)))
    (hs : ∀ k, k < W.heap.size → k ≠ gr → W'.heap[k]? = W.heap[k]?) (hne : ∀ j r, rs[j]? = some r → j ≠ i → r.2.1.ownBlock ≠ some gr) (hrow : RowsOwn W' base r0.2.1 es) :
    RelsAt W' base g (rs.set i (r0.1, r0.2.1, r0.2.2.1, es)) := by
  obtain ⟨cb, h1, h2, h3⟩ := h.blk
  have hgg : g ≠ gr := fun e => by
    subst e
    rw [h1] at hg
    injection hg with hg
    injection hg with _ hg
    exact absurd hg (by decide)
  have hil : i < rs.length := (List.getElem?_eq_some_iff.1 hi).1
  have hel : ∀ p : El, OwnEl W base p → OwnEl W' base p := fun p hp => hp.step hg (by decide) hs
  refine ⟨h.ge, by simpa using h.max, ⟨cb, by rw [hs g (blk_lt h1) hgg, h1], by simpa using h2, ?_⟩, ?_⟩
  · intro j q hq
    rw [List.getElem?_set] at hq
    by_cases hij : i = j
    · subst hij
      rw [if_pos rfl, if_pos hil] at hq
      obtain rfl := Option.some.inj hq
      exact h3 i r0 hi
    · rw [if_neg hij] at hq
      exact h3 j q hq
  · intro q hq
    obtain ⟨j, hj⟩ := List.mem_iff_getElem?.1 hq
    rw [List.getElem?_set] at hj
    by_cases hij : i = j
    · subst hij
      rw [if_pos rfl, if_pos hil] at hj
      obtain rfl := Option.some.inj hj
      exact ⟨hel _ (h.own r0 (List.mem_of_getElem? hi)).1, hrow⟩
    · rw [if_neg hij] at hj
      have ho := h.own q (List.mem_of_getElem? hj)
      have hq2 := hne j q hj (fun e => hij e.symm)
      refine ⟨hel _ ho.1, own_move ho.2.1 (fun k hk => ?_), fun p hp => hel p (ho.2.2.1 p hp), ho.2.2.2⟩
      exact hs k (own_lt ho.2.1 k hk) (fun e => hq2 (by rw [hk, e]))

theorem OwnEl.of_own {W : World} {base : Nat} {v : Value} {xs : List Int} (h : W.ownsRow base 3 1 v xs.length (xs.map (Value.int .i64))) : OwnEl W base (v, xs) :=
  ⟨fun k hk => hk.symm, xs.map (Value.int .i64), h, Kd.reps_scalar xs⟩
theorem OwnEl.own {W : World} {base : Nat} {v : Value} {xs : List Int} (h : OwnEl W base (v, xs)) : W.ownsRow base 3 1 v xs.length (xs.map (Value.int .i64)) := by
  obtain ⟨_, inner, ho, hl, hr⟩ := h
  have hl : inner.length = xs.length * 1 := hl
  have : inner = xs.map (Value.int .i64) := by
    apply List.ext_getElem
    · simp [hl]
    · intro i h1 h2
      have hx : xs[i]? = some (xs[i]'(by simpa using h2)) := List.getElem?_eq_getElem _
      have h3 := hr i _ hx
      have h3 : (inner.drop (i * 1)).take 1 = [Value.int .i64 (xs[i]'(by simpa using h2))] := h3
      rw [Nat.mul_one, List.drop_eq_getElem_cons h1] at h3
      simp only [List.take_succ_cons, List.take_zero] at h3
      injection h3 with h3 _
      rw [h3]
      simp
  rw [← this]
  exact ho
/-- What the call owns lives on where an elder block turns. -/
theorem OwnEl.older {W W' : World} {base B : Nat} {p : El} (h : OwnEl W base p) (hg : W.grownBy W' (some B)) (hB : B < base) : OwnEl W' base p :=
  Kd.R_grown1 h rfl hg (fun e => by
    obtain ⟨inn, ho⟩ := Kd.R_own h
    have := own_base ho B e.symm
    omega)
theorem RowsOwn.older {W W' : World} {base B : Nat} {v : Value} {es : List El} (h : RowsOwn W base v es) (hg : W.grownBy W' (some B)) (hB : B < base) : RowsOwn W' base v es :=
  ⟨own_other h.1 hg (.inr fun e => by have := own_base h.1 B e; omega), fun p hp => (h.2.1 p hp).older hg hB, h.2.2⟩
theorem OwnEl.elder {W W' : World} {base : Nat} {row : Option Nat} {p : El} (h : OwnEl W base p) (hg : W.grownBy W' row) (hB : ∀ k, row = some k → k < base) : OwnEl W' base p := by
  cases row with
  | none => exact h.grown hg (fun g hg => by cases hg)
  | some B => exact h.older hg (hB B rfl)
theorem RowsOwn.elder {W W' : World} {base : Nat} {row : Option Nat} {v : Value} {es : List El} (h : RowsOwn W base v es) (hg : W.grownBy W' row) (hB : ∀ k, row = some k → k < base) : RowsOwn W' base v es :=
  ⟨own_move h.1 (fun k hk => hg.block k (own_lt h.1 k hk) (fun e => by have h1 := own_base h.1 k hk; have h2 := hB k e.symm; omega)), fun p hp => (h.2.1 p hp).elder hg hB, h.2.2⟩
theorem OwnRel.older {W W' : World} {base B : Nat} {r : RelEl} (h : OwnRel W base r) (hg : W.grownBy W' (some B)) (hB : B < base) : OwnRel W' base r := ⟨h.1.older hg hB, h.2.older hg hB⟩
theorem RelsAt.older {W W' : World} {base g B : Nat} {rs : List RelEl} (h : RelsAt W base g rs) (hg : W.grownBy W' (some B)) (hB : B < base) : RelsAt W' base g rs := by
  obtain ⟨cur, h1, h2⟩ := h.blk
  exact ⟨h.ge, h.max, ⟨cur, blk_grown h1 hg (fun e => by have := h.ge; injection e; omega), h2⟩, fun p hp => (h.own p hp).older hg hB⟩
theorem RelsAt.lower {W : World} {b base g : Nat} {rs : List RelEl} (h : RelsAt W b g rs) (hle : base ≤ b) : RelsAt W base g rs :=
  ⟨Nat.le_trans hle h.ge, h.max, h.blk, fun p hp => (h.own p hp).lower hle⟩

end Go.Proofs.YtgejnljpdfjgpaaDoor.Q
/- pass.Up's literal: a parent has what its child has. -/
namespace Go.Proofs.YtgejnljpdfjgpaaDoor.Q
open Go.RowKit Go.Proofs Go.Proofs.YtgejnljpdfjgpaaDoorW.PrintWords Go.Proofs.YtgejnljpdfjgpaaDoorW.PrintLast Go.Proofs.YtgejnljpdfjgpaaDoorW.PrintMore
set_option linter.unusedVariables false
set_option linter.unusedSimpArgs false

/-- What a relation must be to be gone through. -/
structure RelGood (x : S36) : Prop where
  sch : x.f0.length < 17179869184
  rows : x.f1.length < 1099511627776
  each : ∀ t ∈ x.f1, t.length < 17592186044416
  num : ∀ t ∈ x.f1, ∀ n ∈ t, in64 n
def semiS (a b : S36) : S36 := ⟨a.f0, semiL a.f0 a.f1 b.f0 b.f1⟩

theorem relOf_reads {W : World} {base : Nat} {r : RelEl} (h : OwnRel W base r) : ∃ A0 c0 A1 c1, r.1 = .slice A0 (relOf r).f0.length c0 ∧ r.2.1 = .slice A1 (relOf r).f1.length c1 ∧ (relOf r).f0.length ≤ c0 ∧ (Kd.int .i64).C W A0 (relOf r).f0.length (relOf r).f0 ∧ (relOf r).f1.length ≤ c1 ∧ (Kd.slice 3 (Kd.int .i64)).C W A1 (relOf r).f1.length (relOf r).f1 := by
  obtain ⟨A1, c1, e1, l1, g1⟩ := h.1.reads
  obtain ⟨A2, c2, e2, l2, g2⟩ := h.2.reads
  have hl : r.2.2.2.length = (relOf r).f1.length := by simp [relOf]
  rw [hl] at e2 l2 g2
  exact ⟨A1, c1, A2, c2, e1, e2, l1, g1, l2, g2⟩

set_option maxHeartbeats 2000000 in
set_option maxRecDepth 100000 in
theorem pass_Up_1.calls (i p B g base : Nat) (rs : List RelEl) (ri rp : RelEl) (w : World) (hb : w.heap[B]? = some (.cells #[.slice (some ⟨g, 0, none⟩) rs.length rs.length] 28 (0, 0))) (hrs : RelsAt w base g rs) (hl : rs.length < 1073741824)
    (hi : rs[i]? = some ri) (hp : rs[p]? = some rp) (hgi : RelGood (relOf ri)) (hgp : RelGood (relOf rp)) (hT : TabOk w) (hbase : base ≤ w.heap.size) :
    Calls Tryd.prog 18 #[.int .i64 i, .int .i64 p, .pointer (some ⟨B, 0, none⟩)] w fun e w' => e = .returned (.tuple #[]) ∧ (∃ r', relOf r' = semiS (relOf rp) (relOf ri) ∧ RelsAt w' base g (rs.set p r')) ∧ w.grownBy w' (some g) := by
  have hil : i < rs.length := (List.getElem?_eq_some_iff.1 hi).1
  have hpl : p < rs.length := (List.getElem?_eq_some_iff.1 hp).1
  obtain ⟨A0, c0, A1, c1, e1, e2, l1, g1, l2, g2⟩ := relOf_reads (hrs.own _ (List.mem_of_getElem? hp))
  obtain ⟨A2, c2, A3, c3, e3, e4, l3, g3, l4, g4⟩ := relOf_reads (hrs.own _ (List.mem_of_getElem? hi))
  obtain ⟨xi1, xi2, _, _⟩ := hrs.cell hi
  obtain ⟨xp1, xp2, xp3, xp4⟩ := hrs.cell hp
  rw [e1] at xp1
  rw [e2] at xp2
  rw [e3] at xi1
  rw [e4] at xi2
  have hbc := (blk_cell hb 0).trans rfl
  have hi0 : (0 : Int) ≤ (i : Int) := by omega
  have hi1 : (i : Int) < (rs.length : Int) := by omega
  have hp0 : (0 : Int) ≤ (p : Int) := by omega
  have hp1 : (p : Int) < (rs.length : Int) := by omega
  have HRS := Aside0.mk hrs
  have HHB := Aside0.mk hb
  have HGI := Aside0.mk hgi
  have HGP := Aside0.mk hgp
  have HT := Aside0.mk hT
  have HI := Aside0.mk hi
  have HP := Aside0.mk hp
  have HPL := Aside0.mk hpl
  have H1 := Aside0.mk (And.intro l1 g1)
  have H2 := Aside0.mk (And.intro l2 g2)
  have H3 := Aside0.mk (And.intro l3 g3)
  have H4 := Aside0.mk (And.intro l4 g4)
  have HBASE := Aside0.mk hbase
  clear hb hrs hgi hgp hT hi hp e1 e2 e3 e4 l1 g1 l2 g2 l3 g3 l4 g4 hil hpl
  generalize relOf ri = xi at *
  generalize relOf rp = xp at *
  go_enter Tryd.func18, Tryd.ntmps18
  go_wp2_with fail
  go_region_law
    (first
      | (go_simp; go_at_call 19
         refine (join_Semijoin.calls A0 c0 xp.f0 A1 c1 xp.f1 A2 c2 xi.f0 A3 c3 xi.f1 _ (Kd.C_below H1.out.2 (below_drew (Below.refl _ _))) H1.out.1 (Kd.C_below H2.out.2 (below_drew (Below.refl _ _))) (Kd.C_below H3.out.2 (below_drew (Below.refl _ _))) H3.out.1 (Kd.C_below H4.out.2 (below_drew (Below.refl _ _))) HGP.out.sch HGP.out.rows HGI.out.sch HGI.out.rows HGP.out.each HGP.out.num HGI.out.num (HT.out.on (below_drew (Below.refl _ _)))).mono ?_
         rintro e w5 ⟨v1, v2, es, rfl, h1, h2, h3, hb5⟩
         have HV1 := Aside0.mk h1
         have HV2 := Aside0.mk h2
         have HES := Aside0.mk h3
         have HB5 := Aside0.mk (below_step (below_drew (Below.refl w.heap.size w)) hb5)
         obtain ⟨As, cs, es1, hsl, hsC⟩ := HV1.out.reads
         have es1 : v1 = .slice As xp.f0.length cs := es1
         subst es1
         obtain ⟨Ar, cr, es2⟩ := own_slice HV2.out.1
         subst es2
         have hbc5 := (blk_cell (blk_below HHB.out HB5.out) 0).trans rfl
         obtain ⟨yp1, yp2, yp3, yp4⟩ := (HRS.out.below HB5.out).cell HP.out
         clear hsl hsC h1 h2 h3 hb5
         go_wp2_with fail))
  all_goals go_end0
  all_goals
    refine ⟨rfl, ⟨(.slice As xp.f0.length cs, .slice Ar es.length cr, xp.f0, es), ?_, ?_⟩, ?_⟩
  all_goals first
    | (show relOf _ = semiS _ _; unfold relOf semiS; rw [HES.out]; done)
    | exact RelsAt.put (r := (.slice As xp.f0.length cs, .slice Ar es.length cr, xp.f0, es)) (HRS.out.below HB5.out) p HPL.out ⟨HV1.out.lower HBASE.out, HV2.out.lower HBASE.out⟩
    | exact ((grown_of_below HB5.out _).trans (grown_setCell _ _ _ _)).trans (grown_setCell _ _ _ _)
    | go_goals

end Go.Proofs.YtgejnljpdfjgpaaDoor.Q
/- pass.Down's literal: a child has what its parent has. -/
namespace Go.Proofs.YtgejnljpdfjgpaaDoor.Q
open Go.RowKit Go.Proofs Go.Proofs.YtgejnljpdfjgpaaDoorW.PrintWords Go.Proofs.YtgejnljpdfjgpaaDoorW.PrintLast Go.Proofs.YtgejnljpdfjgpaaDoorW.PrintMore
set_option linter.unusedVariables false
set_option linter.unusedSimpArgs false

set_option maxHeartbeats 2000000 in
set_option maxRecDepth 100000 in
theorem pass_Down_1.calls (i p B g base : Nat) (rs : List RelEl) (ri rp : RelEl) (w : World) (hb : w.heap[B]? = some (.cells #[.slice (some ⟨g, 0, none⟩) rs.length rs.length] 28 (0, 0))) (hrs : RelsAt w base g rs) (hl : rs.length < 1073741824)
    (hi : rs[i]? = some ri) (hp : rs[p]? = some rp) (hgi : RelGood (relOf ri)) (hgp : RelGood (relOf rp)) (hT : TabOk w) (hbase : base ≤ w.heap.size) :
    Calls Tryd.prog 20 #[.int .i64 p, .int .i64 i, .pointer (some ⟨B, 0, none⟩)] w fun e w' => e = .returned (.tuple #[]) ∧ (∃ r', relOf r' = semiS (relOf rp) (relOf ri) ∧ RelsAt w' base g (rs.set p r')) ∧ w.grownBy w' (some g) := by
  have hil : i < rs.length := (List.getElem?_eq_some_iff.1 hi).1
  have hpl : p < rs.length := (List.getElem?_eq_some_iff.1 hp).1
  obtain ⟨A0, c0, A1, c1, e1, e2, l1, g1, l2, g2⟩ := relOf_reads (hrs.own _ (List.mem_of_getElem? hp))
  obtain ⟨A2, c2, A3, c3, e3, e4, l3, g3, l4, g4⟩ := relOf_reads (hrs.own _ (List.mem_of_getElem? hi))
  obtain ⟨xi1, xi2, _, _⟩ := hrs.cell hi
  obtain ⟨xp1, xp2, xp3, xp4⟩ := hrs.cell hp
  rw [e1] at xp1
  rw [e2] at xp2
  rw [e3] at xi1
  rw [e4] at xi2
  have hbc := (blk_cell hb 0).trans rfl
  have hi0 : (0 : Int) ≤ (i : Int) := by omega
  have hi1 : (i : Int) < (rs.length : Int) := by omega
  have hp0 : (0 : Int) ≤ (p : Int) := by omega
  have hp1 : (p : Int) < (rs.length : Int) := by omega
  have HRS := Aside0.mk hrs
  have HHB := Aside0.mk hb
  have HGI := Aside0.mk hgi
  have HGP := Aside0.mk hgp
  have HT := Aside0.mk hT
  have HI := Aside0.mk hi
  have HP := Aside0.mk hp
  have HPL := Aside0.mk hpl
  have H1 := Aside0.mk (And.intro l1 g1)
  have H2 := Aside0.mk (And.intro l2 g2)
  have H3 := Aside0.mk (And.intro l3 g3)
  have H4 := Aside0.mk (And.intro l4 g4)
  have HBASE := Aside0.mk hbase
  clear hb hrs hgi hgp hT hi hp e1 e2 e3 e4 l1 g1 l2 g2 l3 g3 l4 g4 hil hpl
  generalize relOf ri = xi at *
  generalize relOf rp = xp at *
  go_enter Tryd.func20, Tryd.ntmps20
  go_wp2_with fail
  go_region_law
    (first
      | (go_simp; go_at_call 19
         refine (join_Semijoin.calls A0 c0 xp.f0 A1 c1 xp.f1 A2 c2 xi.f0 A3 c3 xi.f1 _ (Kd.C_below H1.out.2 (below_drew (Below.refl _ _))) H1.out.1 (Kd.C_below H2.out.2 (below_drew (Below.refl _ _))) (Kd.C_below H3.out.2 (below_drew (Below.refl _ _))) H3.out.1 (Kd.C_below H4.out.2 (below_drew (Below.refl _ _))) HGP.out.sch HGP.out.rows HGI.out.sch HGI.out.rows HGP.out.each HGP.out.num HGI.out.num (HT.out.on (below_drew (Below.refl _ _)))).mono ?_
         rintro e w5 ⟨v1, v2, es, rfl, h1, h2, h3, hb5⟩
         have HV1 := Aside0.mk h1
         have HV2 := Aside0.mk h2
         have HES := Aside0.mk h3
         have HB5 := Aside0.mk (below_step (below_drew (Below.refl w.heap.size w)) hb5)
         obtain ⟨As, cs, es1, hsl, hsC⟩ := HV1.out.reads
         have es1 : v1 = .slice As xp.f0.length cs := es1
         subst es1
         obtain ⟨Ar, cr, es2⟩ := own_slice HV2.out.1
         subst es2
         have hbc5 := (blk_cell (blk_below HHB.out HB5.out) 0).trans rfl
         obtain ⟨yp1, yp2, yp3, yp4⟩ := (HRS.out.below HB5.out).cell HP.out
         clear hsl hsC h1 h2 h3 hb5
         go_wp2_with fail))
  all_goals go_end0
  all_goals
    refine ⟨rfl, ⟨(.slice As xp.f0.length cs, .slice Ar es.length cr, xp.f0, es), ?_, ?_⟩, ?_⟩
  all_goals first
    | (show relOf _ = semiS _ _; unfold relOf semiS; rw [HES.out]; done)
    | exact RelsAt.put (r := (.slice As xp.f0.length cs, .slice Ar es.length cr, xp.f0, es)) (HRS.out.below HB5.out) p HPL.out ⟨HV1.out.lower HBASE.out, HV2.out.lower HBASE.out⟩
    | exact ((grown_of_below HB5.out _).trans (grown_setCell _ _ _ _)).trans (grown_setCell _ _ _ _)
    | go_goals

end Go.Proofs.YtgejnljpdfjgpaaDoor.Q
/- pass.copied: relations with rows of their own. Its conditions: the relations are read at the call; sizes. -/
namespace Go.Proofs.YtgejnljpdfjgpaaDoor.Q
open Go.RowKit Go.Proofs Go.Proofs.YtgejnljpdfjgpaaDoorW.PrintWords Go.Proofs.YtgejnljpdfjgpaaDoorW.PrintLast Go.Proofs.YtgejnljpdfjgpaaDoorW.PrintMore
set_option linter.unusedVariables false
set_option linter.unusedSimpArgs false

structure RelFits (x : S36) : Prop where
  sch : x.f0.length < 17179869184
  rows : x.f1.length < 1099511627776
  each : ∀ t ∈ x.f1, t.length < 17592186044416

set_option maxHeartbeats 1000000 in
set_option maxRecDepth 100000 in
theorem pass_copied.calls (A0 : Option Addr) (c0 : Nat) (xs : List S36) (w : World) (hr0 : Kd.C k36 w A0 xs.length xs) (hl0 : xs.length < 1073741824) (hf : ∀ x ∈ xs, RelFits x) :
    Calls Tryd.prog 17 #[.slice A0 xs.length c0] w fun e w' => ∃ (g : Nat) (rs : List RelEl), e = .returned (.slice (some ⟨g, 0, none⟩) xs.length xs.length) ∧ RelsAt w' w.heap.size g rs ∧ rs.map relOf = xs ∧ Below w.heap.size w w' := by
  have hmk : ∀ W : World, (Instr.makeSlice 28 (.int .i64 (xs.length : Int)) (.int .i64 (xs.length : Int))).run Tryd.prog W = .ok (.slice (some ⟨W.heap.size, 0, none⟩) xs.length xs.length) (W.alloc (.cells (madeCells #[.slice none 0 0, .slice none 0 0] (xs.length * 2)) 36)) := fun W => by
    obtain ⟨i0, hi, hz0, hz1, hz2⟩ := info_parts info_rel
    have := run_make (P := Tryd.prog) W 28 36 i0 (.agg #[.slice none 0 0, .slice none 0 0]) Tryd.underlying28 hi hz0 .i64 .i64 xs.length xs.length (by omega) (by omega) (by rw [hz2]; omega) (by omega)
    rw [hz1, Int.toNat_natCast] at this
    exact this
  have HR0 := Aside0.mk hr0
  have HF := Aside0.mk hf
  clear hr0 hf
  go_enter Tryd.func17, Tryd.ntmps17
  go_wp2
  go_loopw [13] (fun i wr => ∃ (k : Nat) (rs : List RelEl), k ≤ xs.length ∧ i = .int .i64 k ∧ Aside0 (RelsAt wr w.heap.size w.heap.size rs) ∧ Aside0 (rs.map relOf = xs.take k ++ List.replicate (xs.length - k) z36) ∧ Aside0 (Below w.heap.size w wr)) (fun i _ => xs.length - (intOf i).toNat)
  case atStart => exact ⟨0, _, Nat.zero_le _, rfl, aside0 (RelsAt.made w _ (by simp only [maxLen]; omega)), aside0 (by simp [relOf, zeroRel, z36]), aside0 ((Below.refl _ _).alloc (Nat.le_refl _) _)⟩
  case round =>
    obtain ⟨k, rs, hk, rfl, HRS, HMP, HB⟩ := hrel
    clear hmk
    by_cases hlt : k < xs.length
    · have hd : decide ((k : Int) < (xs.length : Int)) = true := decide_eq_true (by omega)
      have hd2 : decide (k < xs.length) = true := decide_eq_true hlt
      have hl1 := hl0
      obtain ⟨ad, A1, c1, A2, c2, e1, hx0, hx1, hc1, hC1, hc2, hC2⟩ := at_T36 HR0.out (k : Int) (by omega) (by omega)
      subst e1
      rw [Int.toNat_natCast] at hx0 hx1
      replace hx0 := (HB.out.cell (World.block_lt_of_cell? w _ hx0)).trans hx0
      replace hx1 := (HB.out.cell (World.block_lt_of_cell? w _ hx1)).trans hx1
      have hxk : xs[k]? = some (rd_T36 xs (k : Int)) := by simp [rd_T36, List.getElem?_eq_getElem hlt]
      have HFX := Aside0.mk (HF.out _ (List.mem_of_getElem? hxk))
      have HRL := Aside0.mk (show rs.length = xs.length by have := congrArg List.length HMP.out; simp at this; omega)
      have HXK := Aside0.mk hxk
      generalize rd_T36 xs (k : Int) = x at hx0 hx1 hc1 hC1 hc2 hC2 HFX HXK
      have HC1 := Aside0.mk hC1
      have HC2 := Aside0.mk hC2
      have HCL1 := Aside0.mk hc1
      have HCL2 := Aside0.mk hc2
      clear hc1 hC1 hc2 hC2 hxk
      have hmk2 : ∀ W : World, (Instr.makeSlice 24 (.int .i64 (x.f1.length : Int)) (.int .i64 (x.f1.length : Int))).run Tryd.prog W = .ok (.slice (some ⟨W.heap.size, 0, none⟩) x.f1.length x.f1.length) (W.alloc (.cells (madeCells #[.slice none 0 0] x.f1.length) 25)) := fun W => by
        obtain ⟨i0, hi, hz0, hz1, hz2⟩ := info_parts info_rows
        have hxl := HFX.out.rows
        have := run_make (P := Tryd.prog) W 24 25 i0 (.slice none 0 0) Tryd.underlying24 hi hz0 .i64 .i64 x.f1.length x.f1.length (by omega) (by omega) (by rw [hz2]; omega) (by omega)
        rw [hz1, Nat.mul_one, Int.toNat_natCast] at this
        exact this
      go_upto_region 5 with fail
      have hbx : (wr.alloc (.cells #[.slice A1 x.f0.length c1, .slice A2 x.f1.length c2] 36)).heap[wr.heap.size]? = _ := heap_alloc_new wr _
      have hb3 : Below wr.heap.size wr (wr.alloc (.cells #[.slice A1 x.f0.length c1, .slice A2 x.f1.length c2] 36)) := (Below.refl _ _).alloc (Nat.le_refl _) _
      generalize wr.alloc (.cells #[.slice A1 x.f0.length c1, .slice A2 x.f1.length c2] 36) = W3 at hbx hb3 ⊢
      have hgx : some wr.heap.size ≠ some w.heap.size := fun e => by have := HRS.out.lt; injection e; omega
      have HRS3 := Aside0.mk (HRS.out.below hb3)
      have HB3 := Aside0.mk hb3
      have HBW3 := Aside0.mk (below_step HB.out hb3)
      have HBX := Aside0.mk hbx
      have XS : Aside0 (∀ W, W3.grownBy W (some w.heap.size) → W.cell? ⟨wr.heap.size, 0, none⟩ = some (.slice A1 x.f0.length c1) ∧ W.cell? ⟨wr.heap.size, 1, none⟩ = some (.slice A2 x.f1.length c2) ∧ Aside0 (W3.grownBy W (some w.heap.size)) ∧ Aside0 (Below w.heap.size w W)) :=
        ⟨fun W h => ⟨(blk_cell (blk_grown HBX.out h hgx) 0).trans rfl, (blk_cell (blk_grown HBX.out h hgx) 1).trans rfl, ⟨h⟩, ⟨pw_below_grown HBW3.out (some w.heap.size) HBW3.out.size h (fun j hj => by cases hj; exact Nat.le_refl _)⟩⟩⟩
      have hrk : rs[k]? = some (rs[k]'(by have := HRL.out; omega)) := List.getElem?_eq_getElem _
      have HGX := Aside0.mk hgx
      clear hgx hbx hb3
      generalize rs[k]'(by have := HRL.out; omega) = rk at hrk
      have HRK := Aside0.mk hrk
      clear hrk
      go_cut [5] (fun v5 wx => ∃ (gr : Nat) (vs : Value), v5 = .pointer (some ⟨wr.heap.size, 0, none⟩) ∧ Aside0 (RelsAt wx w.heap.size w.heap.size (rs.set k (vs, .slice (some ⟨gr, 0, none⟩) x.f1.length x.f1.length, x.f0, List.replicate x.f1.length (.slice none 0 0, [])))) ∧ Aside0 (W3.heap.size ≤ gr) ∧ Aside0 (W3.grownBy wx (some w.heap.size)))
      case first =>
        go_region_held3 (fun w' => w'.cell? ⟨wr.heap.size, 0, none⟩ = some (.slice A1 x.f0.length c1) ∧ w'.cell? ⟨wr.heap.size, 1, none⟩ = some (.slice A2 x.f1.length c2) ∧ Aside0 (W3.grownBy w' (some w.heap.size)) ∧ Aside0 (Below w.heap.size w w'))
          ((refine XS.out _ ?_; go_split_ands; first | exact grown_of_below (below_drew (Below.refl _ _)) _ | exact hk5.out | exact hk5.out.trans (World.grownBy_alloc _ _ _) | exact ‹Aside0 (W3.grownBy _ (some w.heap.size))›.out.trans (World.grownBy_alloc _ _ _) | exact (hk5.out.trans (grown_setCell _ _ _ _)).trans (grown_setCell _ _ _ _) | exact ((hk5.out.trans (World.grownBy_alloc _ _ _)).trans (grown_setCell _ _ _ _)).trans (grown_setCell _ _ _ _)))
          (first
            | (go_at_call 29; go_split_ands
               refine (slices_Clone_int_int.calls A1 c1 x.f0 x.f0 _ (Kd.C_below HC1.out ‹Aside0 (Below w.heap.size w _)›.out) HCL1.out (by unfold slices_Clone_int_int.f; rw [if_pos (by have := HFX.out.sch; omega)])).mono ?_
               rintro e w5 ⟨vs, rfl, hvs, hb5⟩
               have hk5 := Aside0.mk (‹Aside0 (W3.grownBy _ (some w.heap.size))›.out.trans (grown_of_below hb5 _))
               (first | have hwr5 := Aside0.mk (below_step (below_drew HB3.out) hb5) | have hwr5 := Aside0.mk (below_step ((below_drew HB3.out).alloc (below_drew HB3.out).size _) hb5) | have hwr5 := Aside0.mk (below_step (below_drew (HB3.out.alloc HB3.out.size _)) hb5))
               have HV5 := Aside0.mk (OwnEl.of_R hvs)
               obtain ⟨As, cs, evs, hls, hsC⟩ := HV5.out.reads
               have evs : vs = .slice As x.f0.length cs := evs
               subst evs
               clear hls hsC
               obtain ⟨hr1, hr2, hr3, hr4⟩ := RelsAt.cell (HRS.out.below hwr5.out) HRK.out
               have hb6 : Below w5.heap.size w5 (w5.alloc (.cells (madeCells #[.slice none 0 0] x.f1.length) 25)) := (Below.refl _ _).alloc (Nat.le_refl _) _
               obtain ⟨ha1, ha2, ha3, ha4⟩ := RelsAt.cell ((HRS.out.below hwr5.out).below hb6) HRK.out
               clear hb6))
        all_goals go_split_ands
        all_goals (go_wp2_with fail; go_meet)
        all_goals have hml : x.f1.length ≤ maxLen := by have := HFX.out.rows; simp only [maxLen]; omega
        all_goals have hkl : k < rs.length := by have := HRL.out; omega
        all_goals have hz1 : w.heap.size ≤ wr.heap.size := HB.out.size
        all_goals have hz2 : wr.heap.size ≤ W3.heap.size := HB3.out.size
        all_goals have hz3 : W3.heap.size ≤ w5.heap.size := by have := hb5.size; simp at this; omega
        all_goals first
          | exact ⟨w5.heap.size, .slice As x.f0.length cs, rfl, aside0 (RelsAt.put (r := (.slice As x.f0.length cs, .slice (some ⟨w5.heap.size, 0, none⟩) x.f1.length x.f1.length, x.f0, List.replicate x.f1.length (.slice none 0 0, []))) ((HRS.out.below hwr5.out).below ((Below.refl _ _).alloc (Nat.le_refl _) _)) k hkl
              ⟨(HV5.out.lower (by simp; omega)).below ((Below.refl _ _).alloc (Nat.le_refl _) _), by simpa using (RowsAt.made w5 x.f1.length hml).rows.lower (b := w5.heap.size) (base := w.heap.size) (by omega)⟩), aside0 hz3, by assumption⟩
          | exact ⟨W3.heap.size, .slice As x.f0.length cs, rfl, aside0 (RelsAt.put (r := (.slice As x.f0.length cs, .slice (some ⟨W3.heap.size, 0, none⟩) x.f1.length x.f1.length, x.f0, List.replicate x.f1.length (.slice none 0 0, []))) (HRS.out.below hwr5.out) k hkl
              ⟨HV5.out.lower (by simp; omega), by simpa using ((((RowsAt.made W3 x.f1.length hml).rows.lower (b := W3.heap.size) (base := w.heap.size) (by omega)).below (below_drew (Below.refl _ _))).below hb5)⟩), aside0 (Nat.le_refl _), by assumption⟩
      case rest =>
        obtain ⟨gr, vs, rfl, HRS5, HGR3, HG5⟩ := hcut
        have hxb : wc.cell? ⟨wr.heap.size, 1, none⟩ = some (.slice A2 x.f1.length c2) := (blk_cell (blk_grown HBX.out HG5.out HGX.out) 1).trans rfl
        have HNE := Aside0.mk (show ∀ (r' : RelEl) (j : Nat) (r : RelEl), (rs.set k r')[j]? = some r → j ≠ k → r.2.1.ownBlock ≠ some gr from fun r' j r hr hj e => by
          rw [List.getElem?_set, if_neg (fun e => hj e.symm)] at hr
          have h1 := own_lt (HRS.out.own r (List.mem_of_getElem? hr)).2.1 gr e
          have h2 := HB3.out.size
          have h3 := HGR3.out
          omega)
        have HBW5 := Aside0.mk (pw_below_grown HBW3.out (some w.heap.size) HBW3.out.size HG5.out (fun j hj => by cases hj; exact Nat.le_refl _))
        have HKL := Aside0.mk (show k < rs.length by have := HRL.out; omega)
        clear hx0 hx1 hmk2
        go_wp2
        go_loopw [32] (fun i wi => ∃ (j : Nat) (es : List El), j ≤ x.f1.length ∧ i = .int .i64 j ∧ Aside0 (RelsAt wi w.heap.size w.heap.size (rs.set k (vs, .slice (some ⟨gr, 0, none⟩) x.f1.length x.f1.length, x.f0, es))) ∧ Aside0 (es.map (·.2) = x.f1.take j ++ List.replicate (x.f1.length - j) []) ∧ Aside0 (Below w.heap.size w wi)) (fun i _ => x.f1.length - (intOf i).toNat)
        case atStart => exact ⟨0, _, Nat.zero_le _, rfl, HRS5, aside0 (by simp), HBW5⟩
        case round =>
          clear hxb
          obtain ⟨j, es, hj, rfl, HRI, HES, HBI⟩ := hrel
          have hm1 := HFX.out.rows
          by_cases hjt : j < x.f1.length
          · have hd3 : decide ((j : Int) < (x.f1.length : Int)) = true := decide_eq_true (by omega)
            have hd4 : decide (j < x.f1.length) = true := decide_eq_true hjt
            obtain ⟨at2, A3, c3, e3, hy0, hyl, hyC⟩ := at_sl HC2.out j hjt
            subst e3
            replace hy0 := (HBI.out.cell (World.block_lt_of_cell? w _ hy0)).trans hy0
            have hyk : x.f1[j]? = some (x.f1.getD j []) := by rw [List.getD_eq_getElem?_getD, List.getElem?_eq_getElem hjt]; rfl
            have HYF := Aside0.mk (HFX.out.each _ (List.mem_of_getElem? hyk))
            have HTK := Aside0.mk (show x.f1.take (j + 1) = x.f1.take j ++ [x.f1.getD j []] from by rw [List.take_succ_eq_append_getElem hjt, List.getD_eq_getElem?_getD, List.getElem?_eq_getElem hjt]; rfl)
            generalize x.f1.getD j [] = y at hy0 hyl hyC hyk HYF HTK
            have HYC := Aside0.mk (Kd.C_below hyC HBI.out)
            have HYL := Aside0.mk hyl
            clear hyC hyl hyk
            have HEL := Aside0.mk (show es.length = x.f1.length by have := congrArg List.length HES.out; simp at this; omega)
            have HJL := Aside0.mk (show j < es.length by rw [HEL.out]; exact hjt)
            have hgk : (rs.set k (vs, .slice (some ⟨gr, 0, none⟩) x.f1.length x.f1.length, x.f0, es))[k]? = some (vs, .slice (some ⟨gr, 0, none⟩) x.f1.length x.f1.length, x.f0, es) := by rw [List.getElem?_set, if_pos rfl, if_pos HKL.out]
            have HGK := Aside0.mk hgk
            have HRA := Aside0.mk (RowsOwn.at (HRI.out.own _ (List.mem_of_getElem? hgk)).2)
            have hcc := (HRI.out.cell hgk).2.1
            clear hgk
            have hj0 : (0 : Int) ≤ (j : Int) := by omega
            have hj1 : (j : Int) < (x.f1.length : Int) := by omega
            go_upto_region 9 with fail
            go_region_held3 (fun w' => w'.cell? ⟨w.heap.size, k * 2 + 1, none⟩ = some (.slice (some ⟨gr, 0, none⟩) x.f1.length x.f1.length) ∧ Aside0 (Below w.heap.size w w'))
              ((go_split_ands; first | exact ⟨hcc, aside0 (below_drew HBI.out)⟩ | exact ⟨hcd, aside0 (HBI5.out)⟩ | exact ⟨hce, aside0 (HBI5.out.setCell HRA.out.ge _)⟩))
              (first
                | (go_at_call 29; go_split_ands
                   refine (slices_Clone_int_int.calls A3 c3 y y _ (Kd.C_below HYC.out (below_drew (Below.refl _ _))) HYL.out (by unfold slices_Clone_int_int.f; rw [if_pos HYF.out])).mono ?_
                   rintro e w5 ⟨v5, rfl, hv5, hb5⟩
                   have HV5 := Aside0.mk (OwnEl.of_R hv5)
                   obtain ⟨A5, c5, e5, hl5, hC5⟩ := HV5.out.reads
                   have e5 : v5 = .slice A5 y.length c5 := e5
                   subst e5
                   clear hl5 hC5
                   have HB5 := Aside0.mk (below_step (below_drew (Below.refl wr.heap.size wr)) hb5)
                   have HBI5 := Aside0.mk (below_step HBI.out HB5.out)
                   have hcd := ((HRI.out.below HB5.out).cell HGK.out).2.1
                   obtain ⟨hr1, hr2⟩ := (HRA.out.below HB5.out).cell j HJL.out
                   have hce : (w5.setCell ⟨gr, j, none⟩ (.slice A5 y.length c5)).cell? ⟨w.heap.size, k * 2 + 1, none⟩ = some (.slice (some ⟨gr, 0, none⟩) x.f1.length x.f1.length) := (grown_setCell w5 gr j _).cell hcd (fun e => by
                     obtain ⟨cb, h1, _⟩ := (HRI.out.below HB5.out).blk
                     obtain ⟨cr, h2, _⟩ := (HRA.out.below HB5.out).blk
                     injection e with e
                     have e : w.heap.size = gr := e
                     rw [e, h2] at h1
                     injection h1 with h1
                     injection h1 with _ h1
                     exact absurd h1 (by decide))
                   clear hv5 hb5))
            all_goals go_split_ands
            all_goals (go_wp2; go_roundw)
            case rel =>
              have hrr := HRA.out.below HB5.out
              obtain ⟨cr, hcr, _⟩ := hrr.blk
              have hset := hrr.set j HJL.out (v := .slice A5 y.length c5) (x := y) (HV5.out.lower (by have := HBI.out.size; exact this)) (fun q hq p hp e => by
                obtain ⟨inn, ho⟩ := Kd.R_own HV5.out
                have h1 := own_base ho q hq
                have h2 := (HRA.out.own p hp).lt e
                have h4 : wr.drew.heap.size = wr.heap.size := rfl
                omega)
              have hrow := hset.rows
              rw [List.length_set, HEL.out] at hrow
              have ht := RelsAt.turn (HRI.out.below HB5.out) HGK.out hcr (fun q _ hq => Below.heap_setCell w5 ⟨gr, j, none⟩ _ q hq) (fun jj r hr hj => HNE.out _ jj r hr hj) hrow
              rw [List.set_set] at ht
              refine ⟨j + 1, es.set j (.slice A5 y.length c5, y), by omega, by go_num, aside0 ht, aside0 ?_, aside0 (HBI5.out.setCell HRA.out.ge _)⟩
              have h2 : x.f1.length - j = (x.f1.length - (j + 1)) + 1 := by omega
              rw [List.map_set, HES.out, HTK.out, List.set_append_right _ _ (by rw [List.length_take]; exact Nat.min_le_left _ _), List.append_assoc, h2, List.replicate_succ]
              simp only [List.length_take, Nat.min_eq_left hj, Nat.sub_self, List.set_cons_zero]
              rfl
            case measure => simp [intOf]; omega
          · have hje : j = x.f1.length := by omega
            subst hje
            have hd4 : decide (x.f1.length < x.f1.length) = false := decide_eq_false (by omega)
            go_wp2
            go_roundw
            case rel =>
              refine ⟨k + 1, _, by omega, by go_num, HRI, aside0 ?_, HBI⟩
              rw [List.take_length, Nat.sub_self, List.replicate_zero, List.append_nil] at HES
              have hx : x = relOf (vs, .slice (some ⟨gr, 0, none⟩) x.f1.length x.f1.length, x.f0, es) := by
                unfold relOf
                rw [HES.out]
              rw [List.map_set, HMP.out, ← hx]
              rw [List.set_append_right _ _ (by rw [List.length_take]; exact Nat.min_le_left _ _)]
              simp only [List.length_take, Nat.min_eq_left hk, Nat.sub_self]
              rw [List.take_succ_eq_append_getElem hlt, List.append_assoc]
              have h1 : xs[k] = x := by have := HXK.out; rw [List.getElem?_eq_getElem hlt] at this; exact Option.some.inj this
              have h2 : xs.length - k = (xs.length - (k + 1)) + 1 := by omega
              rw [h1, h2, List.replicate_succ]
              rfl
            case measure => simp [intOf]; omega
    · have hke : k = xs.length := by omega
      subst hke
      have hd2 : decide (xs.length < xs.length) = false := decide_eq_false (by omega)
      go_wp2
      go_ret
      rw [List.take_length, Nat.sub_self, List.replicate_zero, List.append_nil] at HMP
      exact ⟨_, rs, rfl, HRS.out, HMP.out, HB.out⟩

end Go.Proofs.YtgejnljpdfjgpaaDoor.Q
