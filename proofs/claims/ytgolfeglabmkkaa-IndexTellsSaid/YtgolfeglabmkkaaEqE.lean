/-
  index.Same: slices.EqualFunc over entries, handed the closure that compares two: the same index?
-/
import Derived.Test.YtgolfeglabmkkaaPxBaseEqE
import Derived.Test.YtgolfeglabmkkaaPureFew
import Derived.LoopTactic
namespace Go.Proofs.Ytgolfeglabmkkaa.EqE
open Go.RowKit Go.Proofs.Ytgolfeglabmkkaa.P Go.Proofs.YtgolfeglabmkkaaW.PrintWords Go.Proofs.Ytgolfeglabmkkaa.PureKit Go.Proofs.Ytgolfeglabmkkaa.IdxSpec Go.Proofs.Ytgolfeglabmkkaa.PureRd Go.Proofs.Ytgolfeglabmkkaa.PureFew

theorem eq_loop (a b : List V) (ha : a.length ≤ 9223372036854775807) (he : a.length = b.length) : ∀ (ra pa rb pb : List V), a = pa ++ ra → b = pb ++ rb → pa.length = pb.length →
    Ev (fun k => api_Version_36.l0 k a b (a.length : Int) (pa.length : Int)) (sameC ra rb)
  | [], pa, rb, pb, h1, h2, h3 => by
    have : rb = [] := by
      rw [h1, h2] at he
      simp at he
      exact List.eq_nil_of_length_eq_zero (by omega)
    subst this
    refine ev_succ ?_
    simp only [api_Version_36.l0]
    refine ev_neg (by rw [h1]; simp) ?_
    simpa [sameC] using ev_now _
  | u :: ra, pa, [], pb, h1, h2, h3 => by rw [h1, h2] at he; simp at he; omega
  | u :: ra, pa, v :: rb, pb, h1, h2, h3 => by
    have l1 : a.length = pa.length + ra.length + 1 := by rw [h1]; simp; omega
    have l2 : b.length = pb.length + rb.length + 1 := by rw [h2]; simp; omega
    have hv : rd_T50 b (pa.length : Int) = v := by rw [h3]; exact rd50 h2
    refine ev_succ ?_
    simp only [api_Version_36.l0, rd50 h1, hv]
    refine ev_pos (by omega) (ev_pos (by omega) (ev_pos (by omega) (ev_pos (by omega) ?_)))
    rw [show (!(u.f0 == v.f0) || (!(u.f1.toList == v.f1.toList) || (!(u.f2 == v.f2) || !(u.f3 == v.f3)))) = !eqV u v by simp [eqV, Bool.not_and]]
    cases hq : eqV u v with
    | false => exact ev_pos rfl (by simpa [sameC, hq] using ev_now _)
    | true =>
      refine ev_neg (by simp) ?_
      rw [wrap_id (by omega) (by omega)]
      have := eq_loop a b ha he ra (pa ++ [u]) rb (pb ++ [v]) (by simp [h1]) (by simp [h2]) (by simp [h3])
      simpa [sameC, hq] using this
/-- Two entries: the same? -/
def eqE (x y : E) : Bool := (x.f0.toList == y.f0.toList) && sameC x.f1 y.f1
theorem pair_is (x y : E) (hx : x.f1.length ≤ 9223372036854775807) : Ev (fun k => index_Same_1.f k x.f0 x.f1 y.f0 y.f1) (eqE x y) := by
  unfold index_Same_1.f eqE
  by_cases h0 : x.f0.toList = y.f0.toList
  · refine ev_pos h0 (ev_bind (g := fun k => api_Version_36.f k x.f1 y.f1) (x := sameC x.f1 y.f1) ?_ ?_)
    · unfold api_Version_36.f
      by_cases he : x.f1.length = y.f1.length
      · refine ev_pos (by omega) ?_
        have := eq_loop x.f1 y.f1 hx he x.f1 [] y.f1 [] rfl rfl rfl
        simpa using this
      · refine ev_neg (by omega) ?_
        rw [sameC_len _ _ he]
        exact ev_now _
    · simpa [h0] using ev_now _
  · refine ev_neg h0 ?_
    have h0' : (x.f0.toList == y.f0.toList) = false := by simpa using h0
    rw [h0', Bool.false_and]
    exact ev_now _
theorem same_zip : ∀ a b : List E, a.length = b.length → (sameI a b = true ↔ ∀ k (h : k < a.length) (h' : k < b.length), eqE a[k] b[k] = true)
  | [], [], _ => by simp [sameI]
  | [], _ :: _, h => by simp at h
  | _ :: _, [], h => by simp at h
  | x :: a, y :: b, h => by
    have ih := same_zip a b (by simpa using h)
    simp only [sameI, Bool.and_eq_true]
    constructor
    · rintro ⟨h1, h2⟩ k hk hk'
      cases k with
      | zero => simpa [eqE] using h1
      | succ k => exact ih.1 h2 k (by simpa using hk) (by simpa using hk')
    · intro h1
      have h2 : eqE x y = true := h1 0 (by simp) (by simp)
      refine ⟨by simpa [eqE] using h2, ih.2 fun k hk hk' => ?_⟩
      exact h1 (k + 1) (by simpa using hk) (by simpa using hk')

set_option maxRecDepth 100000 in
set_option maxHeartbeats 1600000 in
theorem equal_any (A0 : Option Addr) (c0 : Nat) (l0 : List E) (A1 : Option Addr) (c1 : Nat) (l1 : List E) (w : World)
    (hr0 : Kd.C k38 w A0 l0.length l0) (hr1 : Kd.C k38 w A1 l1.length l1) :
    Calls Try.prog 34 #[.slice A0 l0.length c0, .slice A1 l1.length c1, .func (.func 35) #[] #[]] w fun e w' => e = .returned (.bool (sameI l0 l1)) ∧ Below w.heap.size w w' := by
  have hm0 : l0.length ≤ 9223372036854775807 := hr0.2.1
  have hm1 : l1.length ≤ 9223372036854775807 := hr1.2.1
  have hu := Try.underlying38
  by_cases hne : (l0.length : Int) = (l1.length : Int)
  · have hne' : l0.length = l1.length := by omega
    have HS := Aside0.mk (same_zip l0 l1 hne')
    have HR0 := Aside0.mk hr0
    have HR1 := Aside0.mk hr1
    have HN := Aside0.mk hne'
    clear hr0 hr1 hne'
    go_enter Try.func34, Try.ntmps34
    go_wp2
    go_loopw [17] (fun i wr => ∃ k : Nat, k ≤ l0.length ∧ i = .int .i64 k ∧ Aside0 (∀ j (h : j < l0.length) (h' : j < l1.length), j < k → eqE l0[j] l1[j] = true) ∧ Aside0 (Below w.heap.size w wr)) (fun i _ => l0.length - (intOf i).toNat)
    case atStart => exact ⟨0, by omega, rfl, ⟨fun j _ _ h => absurd h (Nat.not_lt_zero _)⟩, ⟨Below.refl _ _⟩⟩
    case round =>
      obtain ⟨k, hk, rfl, HA, HB⟩ := hrel
      by_cases hlt : k < l0.length
      · have hlt1 : k < l1.length := by rw [← HN.out]; exact hlt
        obtain ⟨ad, A2, c2, e0, h0, h1, hl1, hC1⟩ := at_T38 (Kd.C_below HR0.out HB.out) (k : Int) (by omega) (by omega)
        obtain ⟨ad', A3, c3, e0', h0', h1', hl1', hC1'⟩ := at_T38 (Kd.C_below HR1.out HB.out) (k : Int) (by omega) (by omega)
        have hx : rd_T38 l0 (k : Int) = l0[k] := by unfold rd_T38; rw [Int.toNat_natCast, List.getD_eq_getElem?_getD, List.getElem?_eq_getElem hlt]; rfl
        have hx' : rd_T38 l1 (k : Int) = l1[k] := by unfold rd_T38; rw [Int.toNat_natCast, List.getD_eq_getElem?_getD, List.getElem?_eq_getElem hlt1]; rfl
        rw [hx] at h0 h1 hl1 hC1
        rw [hx'] at h0' h1' hl1' hC1'
        rw [Int.toNat_natCast] at h0 h1 h0' h1'
        cases e0
        cases e0'
        obtain ⟨q, hq⟩ : ∃ q, eqE l0[k] l1[k] = q := ⟨_, rfl⟩
        obtain ⟨kk, hkk⟩ := (pair_is l0[k] l1[k] hC1.2.1).rounds
        rw [hq] at hkk
        have hcall := Aside0.mk (fun W (hb : Below wr.heap.size wr W) => index_Same_1.calls kk l0[k].f0 A2 c2 l0[k].f1 l1[k].f0 A3 c3 l1[k].f1 q W (Kd.C_below hC1 hb) hl1 (Kd.C_below hC1' hb) hl1' hkk)
        have HX := Aside0.mk hx
        have HX' := Aside0.mk hx'
        have HQ := Aside0.mk hq
        clear hC1 hC1' hl1 hl1' hx hx' hq hkk
        have q0 : ∀ o, (wr.alloc o).cell? (ad'.add (k * 2)) = some (.string l1[k].f0) := fun o => ((below_alloc (Below.refl wr.heap.size wr) o).cell (World.block_lt_of_cell? wr _ h0')).trans h0'
        have q1 : ∀ o, (wr.alloc o).cell? ⟨(ad'.add (k * 2)).block, (ad'.add (k * 2)).off + 1, none⟩ = some (.slice A3 l1[k].f1.length c3) := fun o => ((below_alloc (Below.refl wr.heap.size wr) o).cell (World.block_lt_of_cell? wr _ h1')).trans h1'
        cases q with
        | true =>
          go_wp2_with fail
          refine (hcall.out _ (by repeat (first | exact Below.refl _ _ | apply below_alloc))).mono ?_
          rintro e w2 ⟨rfl, hb'⟩
          have HB2 := Aside0.mk (below_step (below_alloc (below_alloc HB.out _) _) hb')
          clear hb' q0 q1 h0 h1 h0' h1' hcall
          go_wp2
          refine ⟨⟨k + 1, by omega, by go_num, ⟨fun j h h' hj => ?_⟩, ⟨HB2.out⟩⟩, by simp [intOf]; omega⟩
          by_cases e : j = k
          · subst e; exact HQ.out
          · exact HA.out j h h' (by omega)
        | false =>
          have hs : sameI l0 l1 = false := by
            cases h : sameI l0 l1 with
            | false => rfl
            | true =>
              have h5 := HS.out.1 h k hlt hlt1
              rw [HQ.out] at h5
              cases h5
          have HSS := Aside0.mk hs
          clear hs
          go_wp2_with fail
          refine (hcall.out _ (by repeat (first | exact Below.refl _ _ | apply below_alloc))).mono ?_
          rintro e w2 ⟨rfl, hb'⟩
          have HB2 := Aside0.mk (below_step (below_alloc (below_alloc HB.out _) _) hb')
          clear hb' q0 q1 h0 h1 h0' h1' hcall
          go_wp2
          go_ret
          exact ⟨congrArg (fun b => Ending.returned (Value.bool b)) HSS.out.symm, HB2.out⟩
      · have hk2 : k = l0.length := by omega
        subst hk2
        have hs : sameI l0 l1 = true := HS.out.2 (fun j h h' => HA.out j h h' h)
        have HSS := Aside0.mk hs
        clear hs
        go_wp2
        go_ret
        exact ⟨congrArg (fun b => Ending.returned (Value.bool b)) HSS.out.symm, HB.out⟩
  · have hs : sameI l0 l1 = false := sameI_len _ _ (by omega)
    rw [hs]
    clear hr0 hr1 hs
    go_enter Try.func34, Try.ntmps34
    go_wp2
    go_ret
    exact ⟨rfl, Below.refl _ _⟩
end Go.Proofs.Ytgolfeglabmkkaa.EqE
