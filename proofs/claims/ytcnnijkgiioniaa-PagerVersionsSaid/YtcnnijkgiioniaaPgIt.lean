/-
  pager.things: THE ITERATOR: all things of an index, in order, each once, to whatever loop keeps the blocks of things.
-/
import Derived.RangeFuncNested
import Derived.RangeFuncBound
import Derived.RangeFuncCalls
import Derived.RangeFuncLeaves
import Derived.Shelf.Abstract
import Derived.WalkKit
import Derived.OwnWalkIn
import Derived.TacticsInMore
import Derived.LoopNIn
import Derived.LoopIn
import Derived.BigQuiet
import Derived.Outline
import Derived.Test.YtcnnijkgiioniaaProg
import Derived.Test.YtcnnijkgiioniaaCmp
import Derived.Test.YtcnnijkgiioniaaNmRef
import Derived.Test.YtcnnijkgiioniaaNmSpec
import Derived.Test.YtcnnijkgiioniaaPgSpec
import Derived.Test.YtcnnijkgiioniaaPureKit
import Derived.Test.YtcnnijkgiioniaaPx0
import Derived.Test.YtcnnijkgiioniaaPx3
import Derived.Test.YtcnnijkgiioniaaV0
set_option linter.unusedVariables false
set_option linter.unusedSimpArgs false
namespace Go.Proofs.Ytcnnijkgiioniaa.PgIt
open Go.RowKit Go.Shelf Go.Proofs.Ytcnnijkgiioniaa.P Go.Proofs.YtcnnijkgiioniaaW.PrintWords Go.Proofs.YtcnnijkgiioniaaW.PrintLast Go.Proofs.YtcnnijkgiioniaaW.PrintMore Go.Proofs.Ytcnnijkgiioniaa.PureKit Go.Proofs.Ytcnnijkgiioniaa.Name Go.Proofs.Ytcnnijkgiioniaa.NameW Go.Proofs.Ytcnnijkgiioniaa.NmSpec Go.Proofs.Ytcnnijkgiioniaa.PgSpec
attribute [local go_sem] Oper.semAt_some

/-- WHAT A ROUND KEEPS: the blocks of things. -/
def Keeps (A B : World) : Prop := A.heap.size ≤ B.heap.size ∧ ∀ (g : Nat) (cs : Array Value), A.heap[g]? = some (Obj.cells cs 72 (0, 0)) → B.heap[g]? = A.heap[g]?
theorem Keeps.refl (A : World) : Keeps A A := ⟨Nat.le_refl _, fun _ _ _ => rfl⟩
theorem Keeps.trans {A B C : World} (h : Keeps A B) (k : Keeps B C) : Keeps A C := ⟨Nat.le_trans h.1 k.1, fun g cs hg => (k.2 g cs ((h.2 g cs hg).trans hg)).trans (h.2 g cs hg)⟩
theorem keeps_b {w : World} (W : World) (l : Nat) (o o' : Obj) (_ : w.heap.size ≤ l) (h : W.heap[l]? = some o) (hc : o.isCells = false) (_ : o.isWalk = false) : Keeps W (W.putObj l o') := by
  refine ⟨by simp, fun g cs hg => ?_⟩
  have hne : g ≠ l := by
    rintro rfl
    rw [h] at hg
    cases hg
    simp [Obj.isCells] at hc
  exact World.putObj_heap_other hne
theorem rd50 (l : List E) (i : Nat) (h : i < l.length) : rd_T50 l (i : Int) = l[i] := by
  unfold rd_T50
  rw [Int.toNat_natCast, List.getD_eq_getElem?_getD, List.getElem?_eq_getElem h]
  rfl
set_option maxRecDepth 100000 in
set_option maxHeartbeats 8000000 in
theorem it_calls (m : Nat) (bl bp bd : Nat) (A : Option Addr) (c : Nat) (l : List E) (pre delim : ByteArray) (lk : Nat) (J Jx : List T → World → Prop) (W : World)
    (hJa : AbidesFrom W.heap.size J)
    (hY : ∀ p x W1, J p W1 → p.length < (thingsL pre delim l).length → YieldAt Fence.wide m Try.prog lk #[.agg #[.string x.f0, .bool x.f1]] W1 fun e W' =>
      (e = .returned (.bool true) ∧ J (p ++ [x]) W' ∧ Keeps W1 W') ∨ (e = .returned (.bool false) ∧ Jx (p ++ [x]) W'))
    (hbl : W.cell? ⟨bl, 0, none⟩ = some (.slice A l.length c)) (hbp : W.cell? ⟨bp, 0, none⟩ = some (.string pre)) (hbd : W.cell? ⟨bd, 0, none⟩ = some (.string delim))
    (hr : Kd.C k50 W A l.length l) (hn : ∀ x ∈ l, x.f1 ≠ []) (hlen : l.length ≤ 100) (hkey : ∀ x ∈ l, x.f0.size ≤ 1000) (hpre : pre.size ≤ 1000) (h0 : J [] W) :
    Calls Try.prog 46 #[.func (.yield lk) #[] #[], .pointer (some ⟨bl, 0, none⟩), .pointer (some ⟨bp, 0, none⟩), .pointer (some ⟨bd, 0, none⟩)] W fun e W' => (∃ v, e = .returned v) ∧
      ((∃ ys, ys = thingsL pre delim l ∧ J ys W') ∨ (∃ p, p <+: thingsL pre delim l ∧ Jx p W')) := by
  have hu50 := Try.underlying50
  have hu72 := Try.underlying72
  have hu52 := Try.underlying52
  go_enter Try.func46, Try.ntmps46
  go_wp2_with fail
  go_loopg [5, 16] l.length (fun kq v5 v16 w' => ∃ (i : Nat), v16 = .int .i64 (i : Int) ∧ kq + i = l.length ∧ Aside0 (Kd.R kT 72 w' W.heap.size (fun _ => True) v5 (thingsL pre delim (l.take i))) ∧ Aside0 (Below W.heap.size W w'))
  case atStart => exact ⟨0, rfl, rfl, ⟨Kd.R_nil _ _ _ _ _⟩, ⟨Below.refl _ _⟩⟩
  case round =>
    obtain ⟨i, rfl, hki, HO, HB⟩ := hrel
    cases gk with
    | zero =>
      have hi : i = l.length := by omega
      have hc0 : ¬ i < l.length := by omega
      rw [hi, List.take_length] at HO
      clear hki hi
      obtain ⟨A5, c5, rfl⟩ := Kd.R_slice HO.out
      have hrow : ∃ (g : Nat) (cs : Array Value), thingsL pre delim l ≠ [] → A5 = some ⟨g, 0, none⟩ ∧ wr.heap[g]? = some (Obj.cells cs 72 (0, 0)) ∧ ∀ j (hj : j < (thingsL pre delim l).length), cs[j * 2]? = some (.string (thingsL pre delim l)[j].f0) ∧ cs[j * 2 + 1]? = some (.bool (thingsL pre delim l)[j].f1) := by
        by_cases h : thingsL pre delim l = []
        · exact ⟨0, #[], fun hx => absurd h hx⟩
        · obtain ⟨g, cap, cs, e, _, hb, hc⟩ := row_block HO.out (List.length_pos_iff.2 h)
          refine ⟨g, cs, fun _ => ⟨?_, hb, hc⟩⟩
          injection e
      obtain ⟨g, cs, hrow⟩ := hrow
      have hJ0 : J [] wr := hJa [] W wr none h0 (grown_of_below HB.out none) (fun r e => by cases e)
      have hBW := HB.out.size
      clear HO HB
      generalize hxs : thingsL pre delim l = xs at hrow hY
      go_upto_region 14 with fail
      refine (wpIn_wide (n := m + 1)).1 ?_
      gi_loopw [68] (fun p w2 => ∃ (p1 rest : List T), p = .int .i64 (p1.length : Int) ∧ xs = p1 ++ rest ∧ W.heap.size ≤ w2.heap.size ∧ J p1 w2 ∧ (xs ≠ [] → w2.heap[g]? = some (Obj.cells cs 72 (0, 0)))) (fun p w2 => xs.length - (intOf p).toNat)
      case atStart => exact ⟨[], xs, rfl, rfl, hBW, hJ0, fun h => (hrow h).2.1⟩
      case round =>
        obtain ⟨p1, rest, rfl, hx, hBW2, hJs, hb⟩ := hrel
        cases rest with
        | nil =>
          have hc1 : ¬ p1.length < xs.length := by rw [hx]; simp
          gi_wp2
          go_end0
          exact ⟨⟨_, rfl⟩, .inl ⟨p1, by rw [hxs, hx]; simp, hJs⟩⟩
        | cons x rest =>
          have hne : xs ≠ [] := by rw [hx]; simp
          obtain ⟨rfl, _, hcs⟩ := hrow hne
          have hb2 := hb hne
          have hp1 : p1.length < xs.length := by rw [hx]; simp
          obtain ⟨hk0, hk1⟩ := hcs p1.length hp1
          have hxe : xs[p1.length] = x := by
            subst hx
            simp
          rw [hxe] at hk0 hk1
          have hw0 : wr.cell? ⟨g, p1.length * 2, none⟩ = some (.string x.f0) := (blk_cell hb2 _).trans hk0
          have hw1 : wr.cell? ⟨g, p1.length * 2 + 1, none⟩ = some (.bool x.f1) := (blk_cell hb2 _).trans hk1
          have h100 : p1.length < 101 := by
            have h1 := things_len pre delim l
            rw [hxs] at h1
            omega
          have HX := Aside0.mk hx
          have hcl : decide ((p1.length : Int) < (xs.length : Int)) = true := decide_eq_true (by omega)
          clear hx
          have hbw := below_alloc (Below.refl wr.heap.size wr) (Obj.cells #[.string x.f0, .bool x.f1] 72)
          have hJ1 : J p1 (wr.alloc (Obj.cells #[.string x.f0, .bool x.f1] 72)) := hJa p1 wr _ none hJs (grown_of_below hbw none) (fun r e => by cases e)
          obtain ⟨fn, tmps, assign, body, hy, hR⟩ := hY p1 x _ hJ1 hp1
          gi_wp2
          refine hR.mono ?_
          rintro e W3 (⟨rfl, hJ3, hk3⟩ | ⟨rfl, hJx3⟩)
          · gi_wp2
            go_roundw
            case rel => exact ⟨p1 ++ [x], rest, by simp, by simp [HX.out], Nat.le_trans hBW2 (Nat.le_trans hbw.size hk3.1), hJ3, fun _ => (hk3.2 g cs (blk_below hb2 hbw)).trans (blk_below hb2 hbw)⟩
            case measure => simp [intOf]; omega
          · gi_wp2
            refine bodyPost_ret (results_none rfl _ _ _) rfl ?_
            exact ⟨⟨_, rfl⟩, .inr ⟨p1 ++ [x], ⟨rest, by rw [hxs, HX.out]; simp⟩, hJx3⟩⟩
    | succ k1 =>
      have hi : i < l.length := by omega
      obtain ⟨ad, A1, c1, e, hx0, hx1, hl1, hC1⟩ := at_T50 hr (i : Int) (by omega) (by omega)
      cases e
      rw [rd50 l i hi] at hx0 hx1 hl1 hC1
      rw [Int.toNat_natCast] at hx0 hx1
      have hn1 : l[i].f1.length ≠ 0 := fun h => hn l[i] (List.getElem_mem hi) (List.length_eq_zero_iff.1 h)
      obtain ⟨ad1, e1, hv0, hv1, hv2, hv3⟩ := at_T52 hC1 0 (by omega) (by omega)
      cases e1
      have hc0 : decide ((i : Int) < (l.length : Int)) = true := decide_eq_true (by omega)
      have hc1 : decide (0 ≤ (i : Int)) = true := decide_eq_true (by omega)
      have hx0' := pw_cell_below HB.out hx0
      have hx1' := pw_cell_below HB.out hx1
      go_upto_region 4 with ((with_reducible refine gate_dst (N := 7) rfl ?_); refine box_event ?hg (N := 7) ?hd (cs := #[.string (⟨#[]⟩ : ByteArray), .slice none 0 0]) (t := 50) ?hr ?_; (case hd => rfl); (case hg => rfl); (case hr => first | (go_simp; done) | (go_simp; rfl)); intro gx hgx w7 hbox hb7; have hfz0 := blk_frozen hbox 0; have hfz1 := blk_frozen hbox 1; have hcz0 : w7.cell? ⟨gx, 0, none⟩ = some (.string (⟨#[]⟩ : ByteArray)) := (blk_cell hbox 0).trans rfl; have hcz1 : w7.cell? ⟨gx, 1, none⟩ = some (.slice none 0 0) := (blk_cell hbox 1).trans rfl; have HB7 := Aside0.mk (below_step HB.out hb7); have HX := Aside0.mk hbox; have HBR := Aside0.mk hb7; have GX := Aside0.mk (hgx.symm ▸ Nat.le_refl _ : wr.heap.size ≤ gx); clear hbox hb7 hgx)
      have hle : W.heap.size ≤ gx := Nat.le_trans HB.out.size GX.out
      have n0 := Aside0.mk ((HB7.out.setCell (p := ⟨gx, 0, none⟩) hle (.string l[i].f0)).setCell (p := ⟨gx, 1, none⟩) hle (.slice (some ad1) l[i].f1.length c1))
      have n1 := Aside0.mk ((HBR.out.setCell (p := ⟨gx, 0, none⟩) GX.out (.string l[i].f0)).setCell (p := ⟨gx, 1, none⟩) GX.out (.slice (some ad1) l[i].f1.length c1))
      have n2 : Aside0 (((w7.setCell ⟨gx, 0, none⟩ (.string l[i].f0)).setCell ⟨gx, 1, none⟩ (.slice (some ad1) l[i].f1.length c1)).heap[gx]? = some (Obj.cells #[.string l[i].f0, .slice (some ad1) l[i].f1.length c1] 50 (0, 0))) := ⟨blk_set (blk_set HX.out 0 _) 1 _⟩
      generalize (w7.setCell ⟨gx, 0, none⟩ (.string l[i].f0)).setCell ⟨gx, 1, none⟩ (.slice (some ad1) l[i].f1.length c1) = w8 at n0 n1 n2 ⊢
      clear HB7 HBR HX hfz0 hfz1 hcz0 hcz1 hx0' hx1' hx0 hx1
      have hm : markB l[i] = (rd_T52 l[i].f1 0).f2 := by
        unfold markB rd_T52
        cases hq : l[i].f1 with
        | nil => rw [hq] at hn1; exact absurd rfl hn1
        | cons y r => rfl
      rw [← hm] at hv2
      simp [show ad1.add 0 = ad1 by simp [Addr.add]] at hv2
      clear hm
      have h80 : w8.cell? ⟨gx, 0, none⟩ = some (.string l[i].f0) := (blk_cell n2.out 0).trans rfl
      have h8p := pw_cell_below n0.out hbp
      have hacc : thingsL pre delim (l.take (i + 1)) = addT pre delim (thingsL pre delim (l.take i)) l[i] := by rw [List.take_succ_eq_append_getElem hi, things_snoc]
      by_cases hU : oc pre <+: oc l[i].f0
      · have hu : name_Under.f l[i].f0 pre = some true := by rw [NmRef.under_is, decide_eq_true hU]
        by_cases hM : markB l[i] = true
        · go_wp2_with (go_at_call 37; (with_reducible refine (name_Under.calls l[i].f0 pre true w8 hu).mono ?_); rintro e w9 ⟨rfl, hd⟩; have m0 := Aside0.mk (below_step n0.out hd.below); have m1 := Aside0.mk (below_step n1.out hd.below); have m2 := Aside0.mk (blk_below n2.out hd.below); have h91 : w9.cell? ⟨gx, 1, none⟩ = some (.slice (some ad1) l[i].f1.length c1) := (blk_cell m2.out 1).trans rfl; have h9m := pw_cell_below m0.out hv2; clear hd)
          go_roundg k1
          case measure => omega
          case rel =>
            refine ⟨i + 1, by simp, by omega, ⟨?_⟩, m0⟩
            rw [hacc]
            unfold addT hasT
            rw [hM, decide_eq_true hU]
            exact Kd.R_below HO.out m1.out
        · rw [Bool.not_eq_true] at hM
          have hM' : hasT pre l[i] = true := by unfold hasT; rw [hM, decide_eq_true hU]; rfl
          go_upto_region 5 with (go_at_call 37; (with_reducible refine (name_Under.calls l[i].f0 pre true w8 hu).mono ?_); rintro e w9 ⟨rfl, hd⟩; have m0 := Aside0.mk (below_step n0.out hd.below); have m1 := Aside0.mk (below_step n1.out hd.below); have m2 := Aside0.mk (blk_below n2.out hd.below); have h91 : w9.cell? ⟨gx, 1, none⟩ = some (.slice (some ad1) l[i].f1.length c1) := (blk_cell m2.out 1).trans rfl; have h90 : w9.cell? ⟨gx, 0, none⟩ = some (.string l[i].f0) := (blk_cell m2.out 0).trans rfl; have h9m := pw_cell_below m0.out hv2; clear hd)
          clear h80 h8p
          go_upto_region 6 with ((with_reducible refine gate_dst (N := 8) rfl ?_); refine box_event ?hg (N := 8) ?hd (cs := #[.string (⟨#[]⟩ : ByteArray), .bool false]) (t := 72) ?hr ?_; (case hd => rfl); (case hg => rfl); (case hr => first | (go_simp; done) | (go_simp; rfl)); intro gt hgt w10 hbox hb10; have hfz0 := blk_frozen hbox 0; have hfz1 := blk_frozen hbox 1; have hcz0 : w10.cell? ⟨gt, 0, none⟩ = some (.string (⟨#[]⟩ : ByteArray)) := (blk_cell hbox 0).trans rfl; have hcz1 : w10.cell? ⟨gt, 1, none⟩ = some (.bool false) := (blk_cell hbox 1).trans rfl; have o0 := Aside0.mk (below_step m0.out hb10); have o1 := Aside0.mk (below_step m1.out hb10); have o2 := Aside0.mk (blk_below m2.out hb10); have HT := Aside0.mk hbox; have GT := Aside0.mk (hgt.symm ▸ Nat.le_refl _ : w9.heap.size ≤ gt); have NE := Aside0.mk (hgt.symm ▸ Nat.ne_of_lt (blk_lt m2.out) : gx ≠ gt); have h100 : w10.cell? ⟨gx, 0, none⟩ = some (.string l[i].f0) := (blk_cell o2.out 0).trans rfl; clear hbox hb10 hgt)
          clear hfz0 hfz1 hcz0 hcz1 h100 h90 h91 h9m m2
          have hlt : wr.heap.size ≤ gt := Nat.le_trans m1.out.size GT.out
          have hlt0 : W.heap.size ≤ gt := Nat.le_trans HB.out.size hlt
          have q0 := Aside0.mk ((o0.out.setCell (p := ⟨gt, 0, none⟩) hlt0 (.string l[i].f0)).setCell (p := ⟨gt, 1, none⟩) hlt0 (.bool false))
          have q1 := Aside0.mk ((o1.out.setCell (p := ⟨gt, 0, none⟩) hlt (.string l[i].f0)).setCell (p := ⟨gt, 1, none⟩) hlt (.bool false))
          have q2 : Aside0 (((w10.setCell ⟨gt, 0, none⟩ (.string l[i].f0)).setCell ⟨gt, 1, none⟩ (.bool false)).heap[gt]? = some (Obj.cells #[.string l[i].f0, .bool false] 72 (0, 0))) := ⟨blk_set (blk_set HT.out 0 _) 1 _⟩
          have q3 := Aside0.mk (blk_far (blk_far o2.out (p := ⟨gt, 0, none⟩) NE.out (.string l[i].f0)) (p := ⟨gt, 1, none⟩) NE.out (.bool false))
          generalize (w10.setCell ⟨gt, 0, none⟩ (.string l[i].f0)).setCell ⟨gt, 1, none⟩ (.bool false) = w11 at q0 q1 q2 q3 ⊢
          clear o0 o1 o2 HT m0 m1 n0 n1 n2
          have h11k : w11.cell? ⟨gx, 0, none⟩ = some (.string l[i].f0) := (blk_cell q3.out 0).trans rfl
          have h11p := pw_cell_below q0.out hbp
          have h11d := pw_cell_below q0.out hbd
          obtain ⟨kk, hkk⟩ := (NmRef.group_is l[i].f0 pre delim (hkey _ (List.getElem_mem hi)) hpre).rounds
          obtain ⟨g1, g2, hg⟩ : ∃ g1 g2, grp l[i].f0 pre delim = (g1, g2) := ⟨_, _, rfl⟩
          rw [hg] at hkk
          go_cut [9, 10] (fun v9 v10 wc => Aside0 (v9 = .string g1) ∧ Aside0 (v10 = .bool g2) ∧ Aside0 (wc.heap[gt]? = some (Obj.cells #[.string l[i].f0, .bool false] 72 (0, 0))) ∧ Aside0 (Below W.heap.size W wc) ∧ Aside0 (Below wr.heap.size wr wc))
          case first =>
            go_wp2_with (go_at_call 47; (with_reducible refine (name_Group.calls kk l[i].f0 pre delim g1 g2 w11 hkk).mono ?_); rintro e w12 ⟨rfl, hd⟩; have r0 := Aside0.mk (below_step q0.out hd); have r1 := Aside0.mk (below_step q1.out hd); have r2 := Aside0.mk (blk_below q2.out hd); clear hd)
            go_meet
            case rel => exact ⟨⟨rfl⟩, ⟨rfl⟩, r2, r0, r1⟩
          clear q0 q1 q2 q3 h11k h11p h11d
          obtain ⟨hv9, hv10, q2, q0, q1⟩ := hcut
          go_upto_region 8 with fail
          go_cut [41] (fun v41 wc => Aside0 (wc.heap[gt]? = some (Obj.cells #[.string (thingOf pre delim l[i]).f0, .bool (thingOf pre delim l[i]).f1] 72 (0, 0))) ∧ Aside0 (Below W.heap.size W wc) ∧ Aside0 (Below wr.heap.size wr wc))
          case first =>
            cases hv9.out
            cases hv10.out
            cases g2 with
            | true =>
              have ht : thingOf pre delim l[i] = ⟨g1, true⟩ := by unfold thingOf; rw [hg]; rfl
              have hcz0 : wc.cell? ⟨gt, 0, none⟩ = some (.string l[i].f0) := (blk_cell q2.out 0).trans rfl
              have hcz1 : wc.cell? ⟨gt, 1, none⟩ = some (.bool false) := (blk_cell q2.out 1).trans rfl
              have hfz0 := blk_frozen q2.out 0
              have hfz1 := blk_frozen q2.out 1
              go_wp2
              go_meet
              case rel => rw [ht]; exact ⟨⟨blk_set (blk_set q2.out 0 _) 1 _⟩, ⟨(q0.out.setCell (p := ⟨gt, 0, none⟩) hlt0 _).setCell (p := ⟨gt, 1, none⟩) hlt0 _⟩, ⟨(q1.out.setCell (p := ⟨gt, 0, none⟩) hlt _).setCell (p := ⟨gt, 1, none⟩) hlt _⟩⟩
            | false =>
              have ht : thingOf pre delim l[i] = ⟨l[i].f0, false⟩ := by unfold thingOf; rw [hg]; rfl
              go_wp2
              go_meet
              case rel => rw [ht]; exact ⟨q2, q0, q1⟩
          case rest =>
            clear hv9 hv10 q2 q0 q1 hg hkk
            obtain ⟨r2, r0, r1⟩ := hcut
            have ht0 : wc.cell? ⟨gt, 0, none⟩ = some (.string (thingOf pre delim l[i]).f0) := (blk_cell r2.out 0).trans rfl
            have ht1 : wc.cell? ⟨gt, 1, none⟩ = some (.bool (thingOf pre delim l[i]).f1) := (blk_cell r2.out 1).trans rfl
            have HO1 := Kd.R_below HO.out r1.out
            obtain ⟨A5, c5, rfl⟩ := Kd.R_slice HO1
            have hadd : addT pre delim (thingsL pre delim (l.take i)) l[i] = PgSpec.stepT (thingsL pre delim (l.take i)) (thingOf pre delim l[i]) := by unfold addT; rw [if_pos hM']
            rw [hadd] at hacc
            clear hadd
            have hal : (thingsL pre delim (l.take i)).length ≤ 100 := Nat.le_trans (things_len ..) (by simp; omega)
            generalize thingsL pre delim (l.take i) = acc at *
            generalize thingOf pre delim l[i] = t at *
            go_upto_region 10 with fail
            rcases List.eq_nil_or_concat acc with rfl | ⟨init, u, rfl⟩
            · go_quiet (fail)
              have HO2 := Aside0.mk (Kd.R_drewN HO1 nq)
              have s0 := Aside0.mk (pw_below_drewN r0.out nq)
              have s2 : Aside0 ((wc.drewN nq).heap[gt]? = _) := ⟨r2.out⟩
              have ht0 : (wc.drewN nq).cell? ⟨gt, 0, none⟩ = some (.string t.f0) := (blk_cell s2.out 0).trans rfl
              have ht1 : (wc.drewN nq).cell? ⟨gt, 1, none⟩ = some (.bool t.f1) := (blk_cell s2.out 1).trans rfl
              clear HO1 r0 r1 r2
              generalize wc.drewN nq = wd at *
              go_wp2_with ((with_reducible refine gate_builtin (b := .append) (xs := #[.tmp 61, .tmp 63]) rfl ?_); at_builtin; refine Kd.R_append kT (w0 := W) W.heap.size rfl (.tmp 61) (.tmp 63) 87 72 (.agg #[(.string ⟨#[]⟩), (.bool false)]) 24 rfl Try.underlying87 infoT rfl (by decide) (by omega) (.slice A5 ([] : List T).length c5) [] t [.string t.f0, .bool t.f1] (fun _ => True) (fun _ => False) rfl rfl ?aP (fun _ hk => hk.elim) ?aF ?aO ?aB ?aS ?aL ?_; (case aP => exact kT_mkM _ _ _ t); (case aB => exact s0.out); (case aF => exact (fun _ _ => trivial)); (case aO => exact HO2.out); (case aS => exact s0.out.size); (case aL => first | (simp; done) | (simp; omega)); intro v1 w13 ho hb hg hat; have z0 := Aside0.mk ho; have z1 := Aside0.mk hb; clear ho hb hg hat)
              go_roundg k1
              case measure => omega
              case rel =>
                refine ⟨i + 1, by simp, by omega, ⟨?_⟩, z1⟩
                rw [hacc]
                unfold PgSpec.stepT
                exact z0.out
            · have hlen2 : (init.concat u).length = init.length + 1 := by simp
              obtain ⟨a5, e5, hu0, hu1⟩ := atT (Kd.R_reads' HO1).2.2 (init.length : Int) (by omega) (by omega)
              cases e5
              have hru : rdT (init.concat u) (init.length : Int) = u := by
                unfold rdT
                rw [Int.toNat_natCast, List.getD_eq_getElem?_getD]
                simp
              rw [hru, Int.toNat_natCast] at hu0
              clear hru hu1
              have hstep : PgSpec.stepT (init.concat u) t = if (u.f0.toList == t.f0.toList) = true then init.concat u else init.concat u ++ [t] := by
                unfold PgSpec.stepT
                simp
              rw [hstep] at hacc
              clear hstep
              rw [hlen2]
              have hd0 : ((init.length : Int) + 1 == 0) = false := beq_eq_false_iff_ne.mpr (by omega)
              rw [hlen2] at hal
              by_cases hut : (u.f0.toList == t.f0.toList) = true
              · have hut' : (u.f0.toList != t.f0.toList) = false := by rw [bne, hut]; rfl
                rw [if_pos hut] at hacc
                go_quiet (fail)
                have HO2 := Aside0.mk (Kd.R_drewN HO1 nq)
                have s0 := Aside0.mk (pw_below_drewN r0.out nq)
                clear HO1 r0 r1 r2
                generalize wc.drewN nq = wd at *
                go_wp2_with fail
                go_roundg k1
                case measure => omega
                case rel =>
                  refine ⟨i + 1, by simp, by omega, ⟨?_⟩, s0⟩
                  rw [hacc]
                  have h3 := HO2.out
                  rw [hlen2] at h3
                  exact h3
              · have hut' : (u.f0.toList != t.f0.toList) = true := by rw [bne, Bool.eq_false_iff.mpr hut]; rfl
                rw [if_neg hut] at hacc
                rw [hlen2] at HO1
                replace hut := Bool.eq_false_iff.mpr hut
                go_quiet (fail)
                have HO2 := Aside0.mk (Kd.R_drewN HO1 nq)
                have s0 := Aside0.mk (pw_below_drewN r0.out nq)
                have s2 : Aside0 ((wc.drewN nq).heap[gt]? = _) := ⟨r2.out⟩
                have ht0 : (wc.drewN nq).cell? ⟨gt, 0, none⟩ = some (.string t.f0) := (blk_cell s2.out 0).trans rfl
                have ht1 : (wc.drewN nq).cell? ⟨gt, 1, none⟩ = some (.bool t.f1) := (blk_cell s2.out 1).trans rfl
                clear HO1 r0 r1 r2
                generalize wc.drewN nq = wd at *
                go_wp2_with ((with_reducible refine gate_builtin (b := .append) (xs := #[.tmp 61, .tmp 63]) rfl ?_); at_builtin; refine Kd.R_append kT (w0 := W) W.heap.size rfl (.tmp 61) (.tmp 63) 87 72 (.agg #[(.string ⟨#[]⟩), (.bool false)]) 24 rfl Try.underlying87 infoT rfl (by decide) (by omega) (.slice (some a5) (init.length + 1) c5) (init.concat u) t [.string t.f0, .bool t.f1] (fun _ => True) (fun _ => False) rfl rfl ?aP (fun _ hk => hk.elim) ?aF ?aO ?aB ?aS ?aL ?_; (case aP => exact kT_mkM _ _ _ t); (case aB => exact s0.out); (case aF => exact (fun _ _ => trivial)); (case aO => exact HO2.out); (case aS => exact s0.out.size); (case aL => simp; omega); intro v1 w13 ho hb hg hat; have z0 := Aside0.mk ho; have z1 := Aside0.mk hb; clear ho hb hg hat)
                go_roundg k1
                case measure => omega
                case rel =>
                  refine ⟨i + 1, by simp, by omega, ⟨?_⟩, z1⟩
                  rw [hacc]
                  skip
                  exact z0.out
      · have hu : name_Under.f l[i].f0 pre = some false := by rw [NmRef.under_is, decide_eq_false hU]
        go_wp2_with (go_at_call 37; (with_reducible refine (name_Under.calls l[i].f0 pre false w8 hu).mono ?_); rintro e w9 ⟨rfl, hd⟩; have m0 := Aside0.mk (below_step n0.out hd.below); have m1 := Aside0.mk (below_step n1.out hd.below); clear hd)
        go_roundg k1
        case measure => omega
        case rel =>
          refine ⟨i + 1, by simp, by omega, ⟨?_⟩, m0⟩
          rw [hacc]
          unfold addT hasT
          rw [decide_eq_false hU]
          exact Kd.R_below HO.out m1.out
end Go.Proofs.Ytcnnijkgiioniaa.PgIt
