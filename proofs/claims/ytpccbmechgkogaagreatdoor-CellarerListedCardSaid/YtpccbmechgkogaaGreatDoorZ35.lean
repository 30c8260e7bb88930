/-
  Lemmas: PtLay.
-/
import Derived.BigRegion
import Derived.RegionTactic
import Derived.Test.YtpccbmechgkogaaGreatDoorProg
import Derived.Test.YtpccbmechgkogaaGreatDoorV0
import Derived.Test.YtpccbmechgkogaaGreatDoorZ00
import Derived.Test.YtpccbmechgkogaaGreatDoorZ01
import Derived.Test.YtpccbmechgkogaaGreatDoorZ02
import Derived.Test.YtpccbmechgkogaaGreatDoorZ04
import Derived.Test.YtpccbmechgkogaaGreatDoorZ05
import Derived.Test.YtpccbmechgkogaaGreatDoorZ06
import Derived.Test.YtpccbmechgkogaaGreatDoorZ07
import Derived.Test.YtpccbmechgkogaaGreatDoorZ17
import Derived.Test.YtpccbmechgkogaaGreatDoorZ18
import Derived.Test.YtpccbmechgkogaaGreatDoorZ21
import Derived.Test.YtpccbmechgkogaaGreatDoorZ22
import Derived.Test.YtpccbmechgkogaaGreatDoorZ34
set_option linter.unusedVariables false
set_option linter.unusedSimpArgs false
namespace Go.Proofs.YtpccbmechgkogaaGreatDoor.PtLay
open Go.RowKit Go.Proofs.YtpccbmechgkogaaGreatDoor.P Go.Proofs.YtpccbmechgkogaaGreatDoorW.PrintWords Go.Proofs.YtpccbmechgkogaaGreatDoorW.PrintLast Go.Proofs.YtpccbmechgkogaaGreatDoorW.PrintMore Go.Proofs.YtpccbmechgkogaaGreatDoor.PureKit Go.Proofs.YtpccbmechgkogaaGreatDoor.BkSpec Go.Proofs.YtpccbmechgkogaaGreatDoor.Wk Go.Proofs.YtpccbmechgkogaaGreatDoor.PtBegin Go.Proofs.YtpccbmechgkogaaGreatDoor.PSrch Go.Proofs.YtpccbmechgkogaaGreatDoor.Row
set_option maxRecDepth 100000 in
set_option maxHeartbeats 1600000 in
theorem may_any (x : P) (w : World) : Calls Tryz.prog 148 #[.agg #[.int .i64 x.f0, .string x.f1]] w fun e w' => e = .returned (.bool (partB x)) ∧ Below w.heap.size w w' := by
 have hu := Tryz.underlying119
 have HB := Aside0.mk (below_alloc (Below.refl w.heap.size w) (.cells #[.int .i64 x.f0, .string x.f1] tP))
 by_cases h1 : x.f0 ≥ 1
 ·have d1 : decide (x.f0 ≥ 1) = true := decide_eq_true h1
  by_cases h2 : x.f0 ≤ 1000
  ·have d2 : decide (x.f0 ≤ 1000) = true := decide_eq_true h2
   have hp : partB x = decide ((x.f1.size : Int) ≤ 2000) := by unfold partB; rw [decide_eq_true (show 1 ≤ x.f0 from h1), d2]; rfl
   rw [hp]
   clear hp h1 h2
   go_enter Tryz.func148, Tryz.ntmps148
   go_wp2
   go_ret
   exact ⟨rfl, HB.out⟩
  ·have d2 : decide (x.f0 ≤ 1000) = false := decide_eq_false h2
   have hp : partB x = false := by unfold partB; rw [d2]; simp
   rw [hp]
   clear hp h1 h2
   go_enter Tryz.func148, Tryz.ntmps148
   go_wp2
   go_ret
   exact ⟨rfl, HB.out⟩
 ·have d1 : decide (x.f0 ≥ 1) = false := decide_eq_false h1
  have hp : partB x = false := by unfold partB; rw [decide_eq_false (show ¬ 1 ≤ x.f0 from h1)]; simp
  rw [hp]
  clear hp h1
  go_enter Tryz.func148, Tryz.ntmps148
  go_wp2
  go_ret
  exact ⟨rfl, HB.out⟩
theorem fin_row {w5 W : World} {okl ok' : Nat → Prop} {gl n capl k : Nat} {l : List U} {cur : Array Value} {u : U} {A : Option Addr} {c : Nat} {ps : List P} (hrow : Row kU w5 okl gl tU n capl l cur) (hk : k < l.length) (hu : u = l[k]) (hh : W.heap[gl]? = some (.cells (cur.setIfInBounds (k * 3 + 2) (.slice A ps.length c)) tU (0, 0)))
  (hps : Kd.F kP W ok' A ps.length ps) (hc : ps.length ≤ c) (hn' : ∀ q, ok' q → q ≠ gl) (hstep : ∀ q, okl q → q < w5.heap.size → W.heap[q]? = w5.heap[q]?) : Rd kU W (fun q => (okl q ∨ ok' q) ∨ q = gl) (.slice (some ⟨gl, 0, none⟩) n capl) (l.set k ⟨u.f0, u.f1, ps⟩) := by
 have hn : k < n := by have := hrow.len; omega
 have hcell := hrow.reps.2 k _ (List.getElem?_eq_getElem hk)
 obtain ⟨A2, c2, he, _, _⟩ := k131_openF hcell
 have hx : Kd.FK kU W ok' ⟨u.f0, u.f1, ps⟩ (((((cur.toList.take (n * 3)).drop (k * 3)).take 3)).set 2 (.slice A ps.length c)) := by
  have he' : ((cur.toList.take (n * 3)).drop (k * 3)).take 3 = [.int .u64 l[k].f0, .string l[k].f1, .slice A2 l[k].f2.length c2] := he
  rw [he', ← hu]
  exact k131_mkF W ok' ⟨u.f0, u.f1, ps⟩ hc hps
 exact (Row.put1 hrow hn (f := 2) (by decide) hh hx hn' hstep).rd
def LayR (l r : List U) : Prop := partsB r = true ∧ ∀ u ∈ r, ∃ u' ∈ l, u.f0 = u'.f0
def Laid (w : World) (ok : Nat → Prop) (l : List U) (en : Ending) (w' : World) : Prop :=
 ∃ (v : Value) (r : List U) (t er : Int), en = .returned (.tuple #[v, .int .u32 t, .int .i64 er]) ∧ Rd kU w' (fun k => ok k ∨ w.heap.size ≤ k) v r ∧ (er = 0 → LayR l r) ∧ (0 ≤ t ∧ t < 4294967296) ∧ Below w.heap.size w w'
set_option maxRecDepth 100000 in
set_option maxHeartbeats 6400000 in
theorem lay_any (w : World) (ok : Nat → Prop) (v : Value) (l : List U) (id : Int) (x : P) (hp : partsB l = true) (h : Rd kU w ok v l) :
  Calls Tryz.prog 110 #[v, .int .u64 id, .agg #[.int .i64 x.f0, .string x.f1]] w (Laid w ok l) := by
 have hb := Kd.V_bound h
 obtain ⟨A, c, rfl, hc, hF⟩ := hb
 have hlen := PtAbort.parts_len hp
 have hu := Tryz.underlying131
 have hup := Tryz.underlying119
 have HB0 := Aside0.mk (below_alloc (Below.refl w.heap.size w) (.cells #[.int .i64 x.f0, .string x.f1] tP))
 have C1 := PtPlace.place_any A c l id _ hp (Kd.C_below (Kd.F_now hF) HB0.out) hc
 have HF := Aside0.mk hF
 have HP := Aside0.mk hp
 have HLen := Aside0.mk hlen
 clear h hF hp hlen hc
 go_enter Tryz.func110, Tryz.ntmps110
 go_wp2_with fail
 refine C1.mono ?_
 rintro en w1 ⟨hen, hb1⟩
 have HB1 := Aside0.mk (below_step HB0.out hb1)
 have K1 := Aside0.mk (blk_below (blk_new w (.cells #[.int .i64 x.f0, .string x.f1] tP)) hb1)
 have CM := may_any x w1
 have hz := fun j => blk_cell K1.out j
 clear hb1 C1 HB0
 cases hq : partB x with
 | false =>
  rw [hq] at CM
  rcases hen with rfl | ⟨k, hk, -, rfl⟩
  all_goals
   (try clear hk)
   go_wp2_with fail
   refine CM.mono ?_
   rintro en w2 ⟨rfl, hb2⟩
   have HB2 := Aside0.mk (below_step HB1.out hb2)
   clear hb2 CM hz HB1
   go_wp2_with fail
   go_ret3
   exact ⟨_, [], 0, 1, rfl, Kd.V_nil _ _ _ _ _, (fun h => absurd h (by decide)), by omega, HB2.out⟩
 | true =>
  rw [hq] at CM
  rcases hen with rfl | ⟨k, hk, -, rfl⟩
  ·go_wp2_with fail
   refine CM.mono ?_
   rintro en w2 ⟨rfl, hb2⟩
   have HB2 := Aside0.mk (below_step HB1.out hb2)
   clear hb2 CM hz HB1
   go_wp2_with fail
   go_ret3
   exact ⟨_, [], 0, 4, rfl, Kd.V_nil _ _ _ _ _, (fun h => absurd h (by decide)), by omega, HB2.out⟩
  ·go_wp2_with fail
   refine CM.mono ?_
   rintro en w2 ⟨rfl, hb2⟩
   have HB2 := Aside0.mk (below_step HB1.out hb2)
   have K2 := Aside0.mk (blk_below K1.out hb2)
   clear hb2 CM hz HB1 K1
   have hz := fun j => blk_cell K2.out j
   obtain ⟨ad, c', e0, hcl, hM, hcc, -⟩ := Kd.F_get (Kd.F_below HF.out HB2.out) z131 (k : Int) (by omega) (by omega)
   have hx : l.getD (k : Int).toNat z131 = l[k] := by rw [Int.toNat_natCast, List.getD_eq_getElem?_getD, List.getElem?_eq_getElem hk]; rfl
   rw [hx] at hM
   obtain ⟨u, hu0⟩ : ∃ u, u = l[k] := ⟨_, rfl⟩
   rw [← hu0] at hM
   obtain ⟨A2, c2, rfl, hl2, hF2⟩ := k131_openF hM
   subst e0
   rw [Int.toNat_natCast] at hcc
   have HC2 : Aside0 (w2.cell? ⟨(ad.add (k * 3)).block, (ad.add (k * 3)).off + 2, none⟩ = some (.slice A2 u.f2.length c2)) := ⟨by rw [← add_field _ _ 2 (by omega)]; exact hcc 2 _ rfl⟩
   have HC0 : Aside0 (w2.cell? ⟨w.heap.size, 0, none⟩ = some (.int .i64 x.f0)) := ⟨(blk_cell K2.out 0).trans rfl⟩
   have hup0 : upB u = true := by rw [hu0]; exact (PtPure.parts_iff.1 HP.out).2.1 _ (List.getElem_mem hk)
   have HUP := Aside0.mk hup0
   have HUE := Aside0.mk (show ∃ h : k < l.length, u = l[k] from ⟨hk, hu0⟩)
   have hupi := PtPure.up_iff.1 hup0
   have hbd : ∀ p : P, partB p = true → 0 ≤ p.f0 ∧ p.f0 ≤ 1000 := fun p hp => by
    unfold partB at hp
    simp only [Bool.and_eq_true, decide_eq_true_eq] at hp
    omega
   have HPB := Aside0.mk (fun p (hp : p ∈ u.f2) => hbd p (hupi.2.2.2.2.1 p hp))
   have HX := Aside0.mk (hbd x hq)
   have HU30 := Aside0.mk hupi.2.2.2.1
   have HRI : Aside0 (partsRise u.f2 = true) := ⟨(PtPure.rise_iff _ _).2 hupi.2.2.2.2.2⟩
   have HF2 := Aside0.mk hF2
   have HQ := Aside0.mk hq
   have i0 : (0 : Int) ≤ (k : Int) := by omega
   have i1 : (k : Int) < (l.length : Int) := by omega
   have HKL := Aside0.mk hk
   clear hx hcl hM hcc hF2 hl2 hup0 hupi hbd hu0 hq hz hk
   go_wp2_with fail
   refine start_ (n := 13) (S := fun w' => w'.cell? ⟨(ad.add (k * 3)).block, (ad.add (k * 3)).off + 2, none⟩ = some (.slice A2 u.f2.length c2) ∧ w'.cell? ⟨w.heap.size, 0, none⟩ = some (.int .i64 x.f0)) (ds := []) (bb 13 0) (by kernel_rfl) rfl rfl ⟨HC2.out, HC0.out⟩ (fun hHeld => ?_)
   refine pu 0 32 (h := pu 1 33 (h := pu 2 34 (h := pu 3 35 (h := pu 5 37 (h := ta 4 36 hHeld (h := ta 6 38 hHeld (h := on_ 7 39 (h := fun K hK => ?_))))))))
   refine goes_ Tryz.func149 (by kernel_rfl) rfl #[.slice A2 u.f2.length c2, .int .i64 x.f0, .func (.func 150) #[] #[]] (by rfl) rfl rfl (by simp only [List.map_toArray, List.map_cons, List.map_nil]; rfl) ?_
   refine (srch_any A2 c2 u.f2 x.f0 w2.drew (Kd.C_drew (Kd.F_now HF2.out)) HPB.out HU30.out HX.out.1 HX.out.2 HRI.out).mono ?_
   rintro e w3 ⟨kk, there, rfl, hkk, hlo, hhi, hth, hb3⟩
   refine ⟨_, rfl, ?_⟩
   have HS := Aside0.mk (And.intro hkk (And.intro hlo (And.intro hhi hth)))
   have HB3 := Aside0.mk (below_step (below_drew HB2.out) hb3)
   have HB23 := Aside0.mk (below_step (below_drew (Below.refl w2.heap.size w2)) hb3)
   clear hkk hlo hhi hth hb3
   refine hK.out _ _ ⟨(pw_cell_below HB23.out HC2.out), (pw_cell_below HB23.out HC0.out)⟩ (fun hHeld => ?_)
   clear hK K
   refine nm (h := pu 8 31 (h := pu 9 40 (h := pu 10 41 (h := pu 11 11 (h := pu 12 12 (h := dn (h := ?_)))))))
   have HFl := Aside0.mk (Kd.F_below HF.out HB3.out)
   go_wp2_with fail
   refine (ClU.clone_any w3 (fun k => ok k ∧ k < w.heap.size) (fun k hk => Nat.lt_of_lt_of_le hk.2 HB3.out.size) (some ad) c l HFl.out (by have := HLen.out; omega)).mono ?_
   rintro en w4 ⟨v4, rfl, hN4, hb4⟩
   obtain ⟨gl, capl, rfl, hgl0, hgl1, -⟩ := Kd.N_form hN4 (by omega)
   obtain ⟨c4, hcl4, hM4, hcc4, hfr4⟩ := Kd.N_elem hN4 z131 (k : Int) (by omega) (by omega)
   have hx4 : l.getD (k : Int).toNat z131 = u := by
    obtain ⟨h, hu0⟩ := HUE.out
    rw [Int.toNat_natCast, List.getD_eq_getElem?_getD, List.getElem?_eq_getElem h, hu0]
    rfl
   rw [hx4] at hM4
   obtain ⟨A5, c5, rfl, hl5, hF5⟩ := k131_openF hM4
   rw [Int.toNat_natCast] at hcc4 hfr4
   have h42 : w4.cell? ⟨gl, k * 3 + 2, none⟩ = some (.slice A5 u.f2.length c5) := hcc4 2 _ rfl
   have HN4 := Aside0.mk hN4
   have HF5 := Aside0.mk (Kd.F_bound hF5)
   have HB4 := Aside0.mk (below_step HB3.out hb4)
   have HG := Aside0.mk (And.intro hgl0 hgl1)
   have HFR := Aside0.mk (hfr4 2)
   have K3 := Aside0.mk (blk_below (blk_below K2.out HB23.out) hb4)
   have HWs := Aside0.mk HB3.out.size
   have HW2 := Aside0.mk HB2.out.size
   have HBX : Aside0 (w.heap.size < w3.heap.size) := ⟨Nat.lt_of_lt_of_le (blk_lt K2.out) HB23.out.size⟩
   clear hN4 hcl4 hM4 hcc4 hfr4 hx4 hF5 hb4 hl5 HFl HC2 HC0 HF2 HB23 HB3 HB2 K2 HPB HX HU30 HRI
   go_wp2_with fail
   refine (ClP.clone_any w4 (fun k => ((ok k ∧ k < w.heap.size ∨ w3.heap.size ≤ k) ∧ k ≠ gl) ∧ k < w4.heap.size) (fun k hk => hk.2) A5 c5 u.f2 HF5.out (by have := (PtPure.up_iff.1 HUP.out).2.2.2.1; omega)).mono ?_
   rintro en w5 ⟨v5, rfl, hN5, hb5⟩
   obtain ⟨A6, c6, rfl⟩ := Kd.N_slice hN5
   have hf5 : w5.frozen? ⟨gl, k * 3 + 2, none⟩ = false := (hb5.frozen (p := ⟨gl, k * 3 + 2, none⟩) HG.out.2).trans HFR.out
   have h52 : w5.cell? ⟨gl, k * 3 + 2, none⟩ = some (.slice A5 u.f2.length c5) := (hb5.cell (p := ⟨gl, k * 3 + 2, none⟩) HG.out.2).trans h42
   have HB5 := Aside0.mk (below_step HB4.out hb5)
   have HN45 := Aside0.mk (Kd.N_below (Kd.N_bound HN4.out) hb5)
   have K5 := Aside0.mk (blk_below K3.out hb5)
   have HGL : Aside0 (gl < w4.heap.size) := ⟨HG.out.2⟩
   have HW45 := Aside0.mk hb5.size
   have hne5 : ∀ q, (Value.slice A6 u.f2.length c6).ownBlock = some q → w4.heap.size ≤ q := fun q hq => Kd.N_base hN5 q hq
   have HNE5 := Aside0.mk hne5
   have HN5 : Aside0 (Kd.N kP tP (w5.setCell ⟨gl, k * 3 + 2, none⟩ (.slice A6 u.f2.length c6)) w4.heap.size (fun q => ((ok q ∧ q < w.heap.size ∨ w3.heap.size ≤ q) ∧ q ≠ gl)) (.slice A6 u.f2.length c6) u.f2) := ⟨Kd.N_far (p := ⟨gl, k * 3 + 2, none⟩) (Kd.N_mono (Kd.N_bound hN5) (fun q hq => by
    rcases hq.1 with h | h
    ·exact h.1
    ·exact ⟨.inr (by have := HB4.out.size; have := HWs.out; have := HG.out.1; omega), by have := HG.out.2; omega⟩)) (fun q hq => hq.2) _⟩
   clear hN5 hb5 h42 HF5 HN4 K3 hne5 hHeld
   obtain ⟨hglb, cur, hrow⟩ := Row.of_N HN45.out
   have HROW := Aside0.mk hrow
   have hW6g := grown_set w5 gl (k * 3 + 2) (.slice A6 u.f2.length c6)
   have KG := Aside0.mk (blk_set hrow.heap (k * 3 + 2) (.slice A6 u.f2.length c6))
   have KX := Aside0.mk (grown_blk hW6g K5.out (by have := HG.out.1; have := HBX.out; omega))
   have HW6 := Aside0.mk hW6g
   clear hrow hW6g HN45 K5
   generalize hW : w5.setCell ⟨gl, k * 3 + 2, none⟩ (.slice A6 u.f2.length c6) = W6 at HN5 KG KX HW6
   have HWE := Aside0.mk hW
   cases there with
   | true =>
    obtain ⟨hkl, hke⟩ := HS.out.2.2.2.1 rfl
    obtain ⟨gp, capp, hA6, hgp0, hgp1, -⟩ := Kd.N_form HN5.out (by omega)
    injection hA6 with hA6 _ hc6
    subst hA6
    subst hc6
    obtain ⟨c7, hcl7, hM7, hcc7, hfr7⟩ := Kd.N_elem HN5.out z119 (kk : Int) (by omega) (by omega)
    obtain ⟨y0, y1, rfl⟩ : ∃ y0 y1, c7 = [y0, y1] := by
     match c7, hcl7 with
     | [y0, y1], _ => exact ⟨y0, y1, rfl⟩
    have HC7 := Aside0.mk hcc7
    have HFR7 := Aside0.mk hfr7
    rw [Int.toNat_natCast] at hcc7 hfr7
    have HKE := Aside0.mk (show ∃ h : kk < u.f2.length, u.f2[kk].f0 = x.f0 from ⟨hkl, hke⟩)
    have HGP := Aside0.mk (And.intro hgp0 hgp1)
    have g0 : W6.cell? ⟨gp, kk * 2, none⟩ = some y0 := hcc7 0 _ rfl
    have g1 : W6.cell? ⟨gp, kk * 2 + 1, none⟩ = some y1 := hcc7 1 _ rfl
    have e0 : W6.frozen? ⟨gp, kk * 2, none⟩ = false := hfr7 0
    have e1 : W6.frozen? ⟨gp, kk * 2 + 1, none⟩ = false := hfr7 1
    have j0 : (0 : Int) ≤ (kk : Int) := by omega
    have j1 : (kk : Int) < (u.f2.length : Int) := by omega
    have zx := fun j => blk_cell KX.out j
    have zg : W6.cell? ⟨gl, k * 3 + 2, none⟩ = some (.slice (some ⟨gp, 0, none⟩) u.f2.length c6) := by
     rw [blk_cell KG.out, Array.getElem?_setIfInBounds_self, if_pos (by
      have h1 := HROW.out.size
      have h2 := HROW.out.le
      have h3 := HKL.out
      have h4 : cur.size = capl * 3 := h1
      omega)]
    clear hkl hke hgp0 hgp1 hcl7 hM7 hcc7 hfr7
    go_wp2_with fail
    (try rw [hW])
    clear hW hf5 h52
    go_region
    have hseg := Kd.N_seg (d := kP) HN5.out (kk : Int) j0 j1 (c := [y0, y1]) (seg := [.int .i64 x.f0, .string x.f1]) (j := 0) rfl HC7.out (Nat.le_refl 2) (x' := x) (okp := fun _ => False) (k119_mkF W6 _ x) (fun _ h => h.elim)
    have HN7 : Aside0 (Kd.N kP tP ((W6.setCell ⟨gp, kk * 2, none⟩ (.int .i64 x.f0)).setCell ⟨gp, kk * 2 + 1, none⟩ (.string x.f1)).drew w4.heap.size _ (.slice (some ⟨gp, 0, none⟩) u.f2.length c6) (u.f2.set kk x)) := ⟨Kd.N_drew hseg.1⟩
    have hg7 : W6.grownBy ((W6.setCell ⟨gp, kk * 2, none⟩ (.int .i64 x.f0)).setCell ⟨gp, kk * 2 + 1, none⟩ (.string x.f1)).drew (some gp) := grown_drew hseg.2
    have HG7 := Aside0.mk hg7
    have zx7 := fun j => blk_cell (grown_blk hg7 KX.out (by have := HBX.out; have := HGP.out.1; have := HGL.out; have := HG.out.1; omega)) j
    clear g0 g1 e0 e1 zx zg hseg hg7
    go_wp2_with fail
    refine (TagOf.of_any x.f1 _ (by have := HQ.out; unfold partB at this; simp only [Bool.and_eq_true, decide_eq_true_eq] at this; omega)).mono ?_
    rintro en w8 ⟨rfl, hb8⟩
    have HB8 := Aside0.mk hb8
    clear hb8 zx7
    go_wp2_with fail
    go_ret3
    obtain ⟨hkl, hke⟩ := HKE.out
    obtain ⟨hkl0, hu0⟩ := HUE.out
    have hps := PtPure.set_ok HUP.out hkl HQ.out hke
    obtain ⟨A7, c7, e7, hc7, hF7⟩ := PtPlace.rd_N HN7.out
    injection e7 with eA7 _ ec7
    subst eA7
    subst ec7
    have hlay := PtPure.lay_ok hkl0 HP.out _ hps.1 hps.2.1 hps.2.2
    have hnn : gl ≠ gp := by have := HG.out.2; have := HGP.out.1; omega
    have hfin := fin_row HROW.out hkl0 hu0 (W := w8) (ok' := _) (blk_below (grown_blk HG7.out (by rw [List.length_set]; exact KG.out) hnn) HB8.out) (Kd.F_below hF7 HB8.out) hc7 (fun q hq => hq.2) (fun q hq hlt => by
     rw [HB8.out.block q (Nat.lt_of_lt_of_le hlt (Nat.le_trans (HW6.out.size) HG7.out.size)), HG7.out.block q (Nat.lt_of_lt_of_le hlt HW6.out.size) (fun e => by have := Option.some.inj e; have := hq.1.2; have := HGP.out.1; omega), HW6.out.block q hlt (fun e => hq.2 (Option.some.inj e))])
    have hBf : Below w.heap.size w w8 := by
     have h6 := HB5.out.grown HW6.out HB5.out.size (fun q e => by cases e; have := HG.out.1; have := HWs.out; omega)
     have h7 := h6.grown HG7.out h6.size (fun q e => by cases e; have := HGP.out.1; have := HB4.out.size; omega)
     exact below_step h7 HB8.out
    refine ⟨_, _, _, 0, rfl, Kd.V_mono hfin ?_, fun _ => (by rw [← hu0] at hlay; exact hlay), TagOf.tag_bd x.f1, hBf⟩
    have h3 := HWs.out
    have h4 := HG.out.1
    rintro q ((hq | hq) | hq)
    ·rcases hq.1.1 with h | h
     ·exact .inl h.1
     ·exact .inr (by omega)
    ·rcases hq.1 with h | h
     ·exact .inl h.1
     ·exact .inr (by omega)
    ·exact .inr (by omega)
   | false =>
    have hno : ¬ ∃ h : kk < u.f2.length, u.f2[kk].f0 = x.f0 := fun h => by have := HS.out.2.2.2.2 h; cases this
    have HNO := Aside0.mk hno
    have zg : W6.cell? ⟨gl, k * 3 + 2, none⟩ = some (.slice A6 u.f2.length c6) := by
     rw [blk_cell KG.out, Array.getElem?_setIfInBounds_self, if_pos (by
      have h1 := HROW.out.size
      have h2 := HROW.out.le
      have h3 := HKL.out
      have h4 : cur.size = capl * 3 := h1
      omega)]
    have HZG := Aside0.mk zg
    clear hno
    by_cases h30 : u.f2.length = 30
    ·have d1 : ((u.f2.length : Int) == 30) = true := by rw [beq_iff_eq]; omega
     clear h30
     go_wp2_with fail
     go_ret3
     exact ⟨_, [], 0, 6, rfl, Kd.V_nil _ _ _ _ _, (fun h => absurd h (by decide)), by omega, HB5.out.grown HW6.out HB5.out.size (fun q e => by cases e; have := HG.out.1; have := HWs.out; omega)⟩
    ·have d1 : ((u.f2.length : Int) == 30) = false := by rw [beq_eq_false_iff_ne]; omega
     have H30 := Aside0.mk h30
     have zf : W6.frozen? ⟨gl, k * 3 + 2, none⟩ = false := blk_frozen KG.out _
     have HZF := Aside0.mk zf
     have HX0 : Aside0 (W6.cell? ⟨w.heap.size, 0, none⟩ = some (.int .i64 x.f0)) := ⟨(blk_cell KX.out 0).trans rfl⟩
     have HX1 : Aside0 (W6.cell? ⟨w.heap.size, 1, none⟩ = some (.string x.f1)) := ⟨(blk_cell KX.out 1).trans rfl⟩
     have HNI : Aside0 (Kd.N kP tP (W6.drew.alloc (.cells #[.int .i64 x.f0, .string x.f1] tP)) w4.heap.size (fun q => ((ok q ∧ q < w.heap.size ∨ w3.heap.size ≤ q) ∧ q ≠ gl) ∨ q = W6.heap.size) (.slice A6 u.f2.length c6) u.f2) := ⟨Kd.N_mono (Kd.N_below HN5.out (below_alloc (below_drew (Below.refl _ _)) _)) (fun q hq => .inl hq)⟩
     have HOW : Aside0 (∀ q, (Value.slice A6 u.f2.length c6).ownBlock = some q → q < W6.heap.size) := ⟨Kd.N_lt HN5.out⟩
     have HB46 : Aside0 (w4.heap.size ≤ W6.heap.size) := ⟨Nat.le_trans HW45.out HW6.out.size⟩
     clear h30 zf
     go_wp2_with fail
     (try rw [hW])
     clear hW hf5 h52 zg
     refine start_ (n := 14) (S := fun w' => w'.cell? ⟨gl, k * 3 + 2, none⟩ = some (.slice A6 u.f2.length c6) ∧ w'.cell? ⟨w.heap.size, 0, none⟩ = some (.int .i64 x.f0) ∧ w'.cell? ⟨w.heap.size, 1, none⟩ = some (.string x.f1)) (ds := [13]) (bb 14 0) (by kernel_rfl) rfl rfl ⟨HZG.out, HX0.out, HX1.out⟩ (fun hHeld => ?_)
     refine pu 0 54 (h := pu 1 55 (h := pu 2 56 (h := pu 3 57 (h := pu 4 58 (h := pu 5 59 (h := pu 7 61 (h := ta 6 60 hHeld (h := ta 8 62 hHeld (h := on_ 9 63 (h := fun K hK => ?_))))))))))
     refine value_ (w1 := ?_) (v := ?_) (by rfl) rfl ?_ ?_
     rotate_left 2
     ·go_simp
      constructor
      ·rfl
      ·rfl
     refine hK.out _ _ ⟨(pw_cell_below (below_alloc (below_drew (Below.refl W6.heap.size W6)) _) HZG.out), (pw_cell_below (below_alloc (below_drew (Below.refl W6.heap.size W6)) _) HX0.out), (pw_cell_below (below_alloc (below_drew (Below.refl W6.heap.size W6)) _) HX1.out)⟩ (fun hHeld => ?_)
     clear hK K
     refine nm (h := on_ 10 64 (h := fun K hK => ?_))
     refine goes_ Tryz.func152 (by kernel_rfl) rfl #[.slice A6 u.f2.length c6, .int .i64 kk, .slice (some ⟨W6.heap.size, 0, none⟩) 1 1] (by rfl) rfl rfl (by simp only [List.map_toArray, List.map_cons, List.map_nil]; rfl) ?_
     refine (InsP.insert_any (W6.drew.alloc (.cells #[.int .i64 x.f0, .string x.f1] tP)) w4.heap.size kk _ (fun _ => False) (.slice A6 u.f2.length c6) u.f2 x [.int .i64 x.f0, .string x.f1] W6.heap.size tP HNI.out (by have := (PtPure.up_iff.1 HUP.out).2.2.2.1; omega) HS.out.1 (blk_new W6.drew (.cells #[.int .i64 x.f0, .string x.f1] tP)) (k119_mkF _ _ x) (fun q hq => by rcases hq with h | rfl; exact h.elim; exact ⟨.inr rfl, fun e => by have := HOW.out _ e.symm; omega⟩) (by have := HB46.out; show w4.heap.size ≤ (W6.drew.alloc _).heap.size; rw [show (W6.drew.alloc (.cells #[.int .i64 x.f0, .string x.f1] tP)).heap.size = W6.heap.size + 1 from Array.size_push _]; omega)).mono ?_
     rintro e w8 ⟨v8, rfl, hR8, hb8⟩
     generalize hps : u.f2.take kk ++ [x] ++ u.f2.drop kk = ps at hR8
     have HPS := Aside0.mk hps
     clear hps
     obtain ⟨A8, c8, rfl⟩ := Kd.V_slice hR8
     refine ⟨_, rfl, ?_⟩
     have HR8 := Aside0.mk hR8
     have HB8 := Aside0.mk hb8
     have zf8 : w8.frozen? ⟨gl, k * 3 + 2, none⟩ = false := (hb8.frozen (p := ⟨gl, k * 3 + 2, none⟩) HGL.out).trans (((below_alloc (below_drew (Below.refl W6.heap.size W6)) (.cells #[.int .i64 x.f0, .string x.f1] tP)).frozen (p := ⟨gl, k * 3 + 2, none⟩) (by have := blk_lt KG.out; exact this)).trans HZF.out)
     have zc8 : w8.cell? ⟨gl, k * 3 + 2, none⟩ = some (.slice A6 u.f2.length c6) := ((HB8.out.cell (p := ⟨gl, k * 3 + 2, none⟩) HGL.out).trans (pw_cell_below (below_alloc (below_drew (Below.refl W6.heap.size W6)) _) HZG.out))
     clear hR8 hb8
     refine hK.out _ _ ⟨((HB8.out.cell (p := ⟨gl, k * 3 + 2, none⟩) HGL.out).trans (pw_cell_below (below_alloc (below_drew (Below.refl W6.heap.size W6)) _) HZG.out)), ((HB8.out.cell (p := ⟨w.heap.size, 0, none⟩) (by have := HBX.out; have := HG.out; show w.heap.size < w4.heap.size; omega)).trans (pw_cell_below (below_alloc (below_drew (Below.refl W6.heap.size W6)) _) HX0.out)), ((HB8.out.cell (p := ⟨w.heap.size, 1, none⟩) (by have := HBX.out; have := HG.out; show w.heap.size < w4.heap.size; omega)).trans (pw_cell_below (below_alloc (below_drew (Below.refl W6.heap.size W6)) _) HX1.out))⟩ (fun hHeld => ?_)
     clear hK K
     refine nm (h := pu 11 65 (h := pu 12 66 (h := ln_ 13 (h := fun K hK => ?_))))
     refine skip_ (w1 := ?_) (by rfl) rfl ?_ ?_
     rotate_left
     ·go_simp
      rfl
     refine hK.out _ _ ?_
     clear hK K
     refine dn (h := ?_)
     have KG8 : w8.heap[gl]? = some (.cells (cur.setIfInBounds (k * 3 + 2) (.slice A6 u.f2.length c6)) tU (0, 0)) := (HB8.out.block gl HGL.out).trans (blk_below KG.out (below_alloc (below_drew (Below.refl _ _)) _))
     have KX8 : w8.heap[w.heap.size]? = some (.cells #[.int .i64 x.f0, .string x.f1] tP (0, 0)) := (HB8.out.block w.heap.size (by have := HBX.out; have := HG.out; omega)).trans (blk_below KX.out (below_alloc (below_drew (Below.refl _ _)) _))
     have KG9 := blk_set KG8 (k * 3 + 2) (.slice A8 ps.length c8)
     rw [Array.setIfInBounds_setIfInBounds] at KG9
     have HG9 := Aside0.mk (grown_set w8 gl (k * 3 + 2) (.slice A8 ps.length c8))
     have zx9 := fun j => blk_cell (grown_blk HG9.out KX8 (by have := HBX.out; have := HG.out; omega)) j
     have hsz7 : (W6.drew.alloc (.cells #[.int .i64 x.f0, .string x.f1] tP)).heap.size = W6.heap.size + 1 := Array.size_push _
     rw [hsz7] at HR8
     have hne8 : ∀ q, ((((ok q ∧ q < w.heap.size ∨ w3.heap.size ≤ q) ∧ q ≠ gl) ∨ q = W6.heap.size) ∨ W6.heap.size + 1 ≤ q) → q ≠ gl := by
      have h1 := HGL.out
      have h2 := HB46.out
      rintro q ((hq | hq) | hq)
      ·exact hq.2
      ·omega
      ·omega
     have HNE8 := Aside0.mk hne8
     have HR9 := Aside0.mk (Kd.V_grown HR8.out HG9.out (fun q hq e => hne8 q hq (Option.some.inj e)))
     have K9 := Aside0.mk KG9
     clear hHeld zf8 zc8 KG8 KX8 KG9
     generalize hW9 : w8.setCell ⟨gl, k * 3 + 2, none⟩ (.slice A8 ps.length c8) = W9 at HG9 zx9 HR9 K9 ⊢
     clear hW9
     go_wp2_with fail
     refine (TagOf.of_any x.f1 _ (by have := HQ.out; unfold partB at this; simp only [Bool.and_eq_true, decide_eq_true_eq] at this; omega)).mono ?_
     rintro en w10 ⟨rfl, hb10⟩
     have HB10 := Aside0.mk hb10
     clear hb10 zx9
     go_wp2_with fail
     go_ret3
     obtain ⟨hkl0, hu0⟩ := HUE.out
     have hpsx := PtPure.ins_ok HUP.out HS.out.1 HQ.out H30.out HS.out.2.1 HS.out.2.2.1 HNO.out
     rw [HPS.out] at hpsx
     obtain ⟨A9, c9, e9, hc9, hF9⟩ := HR9.out
     injection e9 with eA9 _ ec9
     subst eA9
     subst ec9
     have hlay := PtPure.lay_ok hkl0 HP.out _ hpsx.1 hpsx.2.1 hpsx.2.2
     have hfin := fin_row HROW.out hkl0 hu0 (W := w10) (ok' := _) (blk_below K9.out HB10.out) (Kd.F_below hF9 HB10.out) hc9 HNE8.out (fun q hq hlt => by
      have h1 : q < W6.heap.size := Nat.lt_of_lt_of_le hlt HW6.out.size
      have h2 : q < w8.heap.size := Nat.lt_of_lt_of_le h1 (Nat.le_trans (by rw [hsz7]; omega) HB8.out.size)
      rw [HB10.out.block q (Nat.lt_of_lt_of_le h2 HG9.out.size), HG9.out.block q h2 (fun e => hq.2 (Option.some.inj e)), HB8.out.block q hq.1.2, (below_alloc (below_drew (Below.refl W6.heap.size W6)) (.cells #[.int .i64 x.f0, .string x.f1] tP)).block q h1, HW6.out.block q hlt (fun e => hq.2 (Option.some.inj e))])
     have hw3 : w.heap.size ≤ w3.heap.size := HWs.out
     have hgle := HG.out.1
     have hBf : Below w.heap.size w w10 := by
      have h6 := HB5.out.grown HW6.out HB5.out.size (fun q e => by cases e; omega)
      have h7 : Below w.heap.size w (W6.drew.alloc (.cells #[.int .i64 x.f0, .string x.f1] tP)) := below_alloc (below_drew h6) _
      have h8 : Below w.heap.size w w8 := ⟨HB8.out.os.trans h7.os, HB8.out.tape.trans h7.tape, HB8.out.output.trans h7.output, Nat.le_trans h7.size HB8.out.size, fun q hq => (HB8.out.block q (Nat.lt_of_lt_of_le hq HB4.out.size)).trans (h7.block q hq)⟩
      have h9 := h8.grown HG9.out h8.size (fun q e => by cases e; omega)
      exact below_step h9 HB10.out
     refine ⟨_, _, _, 0, rfl, Kd.V_mono hfin ?_, fun _ => (by rw [← hu0] at hlay; exact hlay), TagOf.tag_bd x.f1, hBf⟩
     have h46 := HB46.out
     have hgl2 := HGL.out
     rintro q ((hq | hq) | hq)
     ·rcases hq.1.1 with h | h
      ·exact .inl h.1
      ·exact .inr (by omega)
     ·rcases hq with (hq | hq) | hq
      ·rcases hq.1 with h | h
       ·exact .inl h.1
       ·exact .inr (by omega)
      ·exact .inr (by omega)
      ·exact .inr (by omega)
     ·exact .inr (by omega)
end Go.Proofs.YtpccbmechgkogaaGreatDoor.PtLay
