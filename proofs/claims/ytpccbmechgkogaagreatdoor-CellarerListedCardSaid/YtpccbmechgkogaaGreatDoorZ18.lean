/-
  Lemmas: Row, UDel, PtAbort, PtPure.
-/
import Derived.Test.YtpccbmechgkogaaGreatDoorProg
import Derived.Shelf.RegionOpenPlain
import Derived.Deep.RegionLaw
import Derived.Outline
import Derived.KernelRfl
import Derived.Test.YtpccbmechgkogaaGreatDoorV0
import Derived.Test.YtpccbmechgkogaaGreatDoorZ00
import Derived.Test.YtpccbmechgkogaaGreatDoorZ01
import Derived.Test.YtpccbmechgkogaaGreatDoorZ02
import Derived.Test.YtpccbmechgkogaaGreatDoorZ04
import Derived.Test.YtpccbmechgkogaaGreatDoorZ17
set_option linter.unusedVariables false
set_option linter.unusedSimpArgs false
namespace Go.Proofs.YtpccbmechgkogaaGreatDoor.Row
open Go.RowKit Go.Proofs.YtpccbmechgkogaaGreatDoorW.PrintWords
section
variable {α : Type} {d : Kd α} {e base n cap g : Nat} {ok : Nat → Prop} {w w1 : World} {xs xs' : List α} {cur cur1 : Array Value}
structure Row (d : Kd α) (w : World) (ok : Nat → Prop) (g e n cap : Nat) (xs : List α) (cur : Array Value) : Prop where
 heap : w.heap[g]? = some (.cells cur e (0, 0))
 size : cur.size = cap * d.sz
 le : n ≤ cap
 mx : cap ≤ maxLen
 len : n = xs.length
 reps : Reps (fun x c => Kd.FK d w ok x c) d.sz xs (cur.toList.take (n * d.sz))
 ne : ∀ k, ok k → k ≠ g
theorem Row.of_N (h : Kd.N d e w base ok (.slice (some ⟨g, 0, none⟩) n cap) xs) : base ≤ g ∧ ∃ cur, Row d w (fun k => ok k ∧ k ≠ g) g e n cap xs cur := by
 obtain ⟨_, rows, hl, ⟨_, inner, ho, hr⟩, hf⟩ := h
 obtain ⟨h1, h2⟩ := ho
 rcases h2 with ⟨hv, _⟩ | ⟨g', cap', cur, hv, hb, hh, hn, hm, hs, ht⟩
 ·cases hv
 ·cases hv
  refine ⟨hb, cur, hh, hs, hn, hm, hl, ⟨?_, fun j p hj => ?_⟩, fun _ hk => hk.2⟩
  ·have ht' : cur.toList.take (rows.length * d.sz) = inner := ht
   rw [ht', h1, hl]
   rfl
  ·have hjl : j < rows.length := by have := (List.getElem?_eq_some_iff.1 hj).1; omega
   have hc := hr.2 j _ (List.getElem?_eq_getElem hjl)
   have ht' : cur.toList.take (rows.length * d.sz) = inner := ht
   rw [ht']
   have hk := hf j p _ hj (List.getElem?_eq_getElem hjl)
   rw [show (inner.drop (j * d.sz)).take d.sz = rows[j] from hc.1]
   exact Kd.FK_mono hk (fun k hk => ⟨hk.1, fun e => hk.2 (by rw [e]; rfl)⟩)
theorem Row.N (h : Row d w ok g e n cap xs cur) : Kd.N d e w 0 (fun k => ok k ∨ k = g) (.slice (some ⟨g, 0, none⟩) n cap) xs := by
 have hown : ∀ k, (Value.slice (some ⟨g, 0, none⟩) n cap).ownBlock = some k → k = g := fun k hk => by simpa [Value.ownBlock] using hk.symm
 refine ⟨fun k hk => .inr (hown k hk), Kd.chunks d.sz xs.length (cur.toList.take (n * d.sz)), Kd.chunks_length _ _ _, ⟨fun k hk => hk.symm, cur.toList.take (n * d.sz), ?_, Kd.reps_raw h.reps (fun x c hp => ⟨d.K_len (Kd.FK_now hp), d.K_one (Kd.FK_now hp)⟩)⟩, fun j x c hx hc => ?_⟩
 ·rw [Kd.chunks_length]
  refine ⟨by rw [h.reps.1]; rfl, .inr ⟨g, cap, cur, by rw [← h.len], Nat.zero_le _, h.heap, by rw [← h.len]; exact h.le, h.mx, h.size, by rw [← h.len]; rfl⟩⟩
 ·rw [Kd.chunks_get hc]
  exact Kd.FK_mono (h.reps.2 j x hx) (fun k hk => ⟨.inl hk, fun e => h.ne k hk (hown k e.symm)⟩)
theorem Row.rd (h : Row d w ok g e n cap xs cur) : Kd.V d 0 w 0 (fun k => ok k ∨ k = g) (.slice (some ⟨g, 0, none⟩) n cap) xs := show Kd.V d e w 0 _ _ _ from Kd.N_V h.N
theorem Row.written (h : Row d w ok g e n cap xs cur) (hg : w.grownBy w1 (some g)) (hh : w1.heap[g]? = some (.cells cur1 e (0, 0))) (hs : cur1.size = cur.size) (hl : xs'.length ≤ cap) (hr : Reps (fun x c => Kd.FK d w ok x c) d.sz xs' (cur1.toList.take (xs'.length * d.sz))) : Row d w1 ok g e xs'.length cap xs' cur1 :=
 ⟨hh, hs.trans h.size, hl, h.mx, rfl, hr.imp_ (fun _ _ hk => Kd.FK_step hk (fun k ho hlt => hg.block k hlt (fun e => h.ne k ho (Option.some.inj e)))), h.ne⟩
theorem Row.below (h : Row d w ok g e n cap xs cur) (hb : Below w.heap.size w w1) : Row d w1 ok g e n cap xs cur :=
 ⟨blk_below h.heap hb, h.size, h.le, h.mx, h.len, h.reps.imp_ (fun _ _ hk => Kd.FK_below hk hb), h.ne⟩
theorem setCells_grown (w : World) (g o : Nat) (cs : List Value) : w.grownBy (w.setCells g o cs) (some g) := by
 obtain ⟨h1, h2, h3, h4⟩ := setCells_same g cs o w
 exact ⟨h1, h2, h3, Nat.le_of_eq h4.symm, fun k hk hne => setCells_far cs o k (fun e => hne (by rw [e]))⟩
theorem Row.spare (h : Row d w ok g e n cap xs cur) (o : Nat) (cs : List Value) (ho : n * d.sz ≤ o) (hc : o + cs.length ≤ cap * d.sz) : ∃ cur1, Row d (w.setCells g o cs) ok g e n cap xs cur1 := by
 obtain ⟨cur1, h1, h2, h3⟩ := setCells_row cs o w cur h.heap (by rw [h.size]; exact hc)
 refine ⟨cur1, ?_⟩
 have hlen := h.len
 have ht : cur1.toList.take (n * d.sz) = cur.toList.take (n * d.sz) := by
  rw [h3, List.append_assoc, List.take_append_of_le_length (by rw [List.length_take, Array.length_toList, h.size]; omega), List.take_take, Nat.min_eq_left ho]
 have := h.written (xs' := xs) (setCells_grown w g o cs) h1 h2 (by rw [← hlen]; exact h.le) (by rw [← hlen, ht]; exact h.reps)
 rw [← hlen] at this
 exact this
theorem Row.put1 {ok' : Nat → Prop} {i f : Nat} {x' : α} {v : Value} (h : Row d w ok g e n cap xs cur) (hi : i < n) (hf : f < d.sz) (hh : w1.heap[g]? = some (.cells (cur.setIfInBounds (i * d.sz + f) v) e (0, 0)))
  (hx : Kd.FK d w1 ok' x' (((((cur.toList.take (n * d.sz)).drop (i * d.sz)).take d.sz)).set f v)) (hn' : ∀ k, ok' k → k ≠ g) (hstep : ∀ k, ok k → k < w.heap.size → w1.heap[k]? = w.heap[k]?) : Row d w1 (fun k => ok k ∨ ok' k) g e n cap (xs.set i x') (cur.setIfInBounds (i * d.sz + f) v) := by
 have hlen := h.len
 have hcs := Nat.mul_le_mul_right d.sz h.le
 have hcl : cur.toList.length = cap * d.sz := by rw [Array.length_toList, h.size]
 have hin : (i + 1) * d.sz ≤ n * d.sz := Nat.mul_le_mul_right _ hi
 rw [Nat.succ_mul] at hin
 have ht : (cur.setIfInBounds (i * d.sz + f) v).toList.take (n * d.sz) = (cur.toList.take (n * d.sz)).set (i * d.sz + f) v := by
  rw [Array.toList_setIfInBounds, List.take_set]
 refine ⟨hh, by rw [Array.size_setIfInBounds, h.size], h.le, h.mx, by rw [List.length_set]; exact hlen, ⟨?_, fun j p hj => ?_⟩, fun k hk => hk.elim (h.ne k) (hn' k)⟩
 ·rw [ht, List.length_set, h.reps.1, List.length_set]
 ·rw [ht]
  have hjl : j < xs.length := by have := (List.getElem?_eq_some_iff.1 hj).1; rwa [List.length_set] at this
  by_cases hji : j = i
  ·subst hji
   rw [List.getElem?_set_self hjl] at hj
   injection hj with hj
   rw [← hj]
   refine Kd.FK_mono ?_ (fun k hk => Or.inr hk)
   have e1 : ((List.set (List.take (n * d.sz) cur.toList) (j * d.sz + f) v).drop (j * d.sz)).take d.sz = ((((cur.toList.take (n * d.sz)).drop (j * d.sz)).take d.sz)).set f v := by
    rw [List.drop_set, if_neg (by omega), show j * d.sz + f - j * d.sz = f by omega, List.take_set]
   rw [e1]
   exact hx
  ·rw [List.getElem?_set_ne (Ne.symm hji)] at hj
   have hold := h.reps.2 j p hj
   have e2 : ((List.set (List.take (n * d.sz) cur.toList) (i * d.sz + f) v).drop (j * d.sz)).take d.sz = ((cur.toList.take (n * d.sz)).drop (j * d.sz)).take d.sz := by
    rw [List.drop_set]
    by_cases hlt : i < j
    ·have : (i + 1) * d.sz ≤ j * d.sz := Nat.mul_le_mul_right _ hlt
     rw [Nat.succ_mul] at this
     rw [if_pos (by omega)]
    ·have : (j + 1) * d.sz ≤ i * d.sz := Nat.mul_le_mul_right _ (by omega)
     rw [Nat.succ_mul] at this
     rw [if_neg (by omega), List.take_set_of_le (by omega)]
   rw [e2]
   exact Kd.FK_mono (Kd.FK_step hold hstep) (fun k hk => Or.inl hk)
theorem Row.cell (h : Row d w ok g e n cap xs cur) (j : Nat) (hj : j < cap * d.sz) : (w.cell? ⟨g, j, none⟩).isSome = true := by
 rw [blk_cell h.heap j, Array.getElem?_eq_getElem (by rw [h.size]; exact hj)]
 rfl
theorem Row.thaw (h : Row d w ok g e n cap xs cur) (j : Nat) : w.frozen? ⟨g, j, none⟩ = false := blk_frozen h.heap j
end
end Go.Proofs.YtpccbmechgkogaaGreatDoor.Row
namespace Go.Proofs.YtpccbmechgkogaaGreatDoor.UDel
open Go.RowKit Go.Proofs.YtpccbmechgkogaaGreatDoor.P Go.Proofs.YtpccbmechgkogaaGreatDoorW.PrintWords Go.Proofs.YtpccbmechgkogaaGreatDoorW.PrintLast Go.Proofs.YtpccbmechgkogaaGreatDoorW.PrintMore Go.Proofs.YtpccbmechgkogaaGreatDoor.PureKit Go.Proofs.YtpccbmechgkogaaGreatDoor.BkSpec Go.Proofs.YtpccbmechgkogaaGreatDoor.Wk Go.Proofs.YtpccbmechgkogaaGreatDoor.Row Go.Proofs.YtpccbmechgkogaaGreatDoor.PtBegin
def z3 : Array Value := #[.int .u64 0, .string ⟨#[]⟩, .slice none 0 0]
theorem zero_up (W : World) : (zeroValue tU).run Tryz.prog W = .ok (.agg z3) W := by kernel_rfl
theorem run_clear_one {P : Program} (w : World) (t e ty : TypeId) (z : Array Value) (ht : P.underlying t = some (.slice e)) (hv : ∀ w, (zeroValue e).run P w = .ok (.agg z) w) (b o c : Nat) (hz1 : ∀ v ∈ z.toList, v.oneCell' = true)
  (hzc : (Builtin.zeroCells (Value.agg z).cells 1).toList = z.toList) (hc : ∀ j, j < z.size → (w.cell? ⟨b, o + j, none⟩).isSome = true) (hf : ∀ j, j < z.size → w.frozen? ⟨b, o + j, none⟩ = false) :
  (Builtin.clear_ #[t] ty #[.slice (some ⟨b, o, none⟩) 1 c]).run P w = .ok (.tuple #[]) (w.setCells b o z.toList) := by
 have hst := run_storeCells_cells (P := P) b o z.toList 0 w (by simpa using hc) (by simpa using hf) hz1
 simp only [Nat.add_zero] at hst
 simp [Builtin.clear_, run_underlying ht, hv, hzc, hst]
def Gone (w : World) (base : Nat) (ok : Nat → Prop) (l : List U) (k : Nat) (en : Ending) (w' : World) : Prop :=
 ∃ v : Value, en = .returned v ∧ Rd kU w' ok v (l.eraseIdx k) ∧ Below base w w'
set_option maxRecDepth 100000 in
set_option maxHeartbeats 3200000 in
theorem delete_any (w : World) (base : Nat) (ok : Nat → Prop) (v : Value) (l : List U) (k : Nat) (hk : k < l.length) (hl : l.length ≤ 100) (h : Kd.N kU tU w base ok v l) (hbase : base ≤ w.heap.size) :
  Calls Tryz.prog 153 #[v, .int .i64 k, .int .i64 (k + 1)] w (Gone w base ok l k) := by
 obtain ⟨g, cap, rfl, hg, hgl, -⟩ := Kd.N_form h (by omega)
 have hcap := (Kd.N_reads' h).2.1
 obtain ⟨n, hn⟩ : ∃ n, n = l.length := ⟨_, rfl⟩
 rw [← hn] at h hk hl hcap ⊢
 have HN := Aside0.mk h
 have HLn := Aside0.mk hn
 have hu := Tryz.underlying38
 have HB := Aside0.mk hbase
 clear h hbase hn
 have f1 : ¬ (k : Int) = (k : Int) + 1 := by omega
 have f2 : (((k : Int)) == ((k : Int) + 1)) = false := by rw [beq_eq_false_iff_ne]; omega
 have f3 : (0 : Int) ≤ (k : Int) := by omega
 have f4 : (k : Int) ≤ (n : Int) := by omega
 have f5 : (k : Int) + 1 ≤ (n : Int) := by omega
 have f6 : (n : Int) ≤ (cap : Int) := by omega
 have f7 : (0 : Int) ≤ (k : Int) + 1 := by omega
 have f9 : (k : Int) ≤ (k : Int) + 1 := by omega
 have f10 : (k : Int) ≤ (cap : Int) := by omega
 have f8 : ((k : Int) + 1).toNat = k + 1 := by omega
 go_enter Tryz.func153, Tryz.ntmps153
 go_wp2
 have HMIX : Tryz.prog.follows Departure.mixedOrders = true := by kernel_rfl
 by_cases hc : cap = k + 1
 case' pos =>
  go_region_law_o (refine Kd.N_delete_step kU (w0 := w) base (by rfl) (.tmp 22) (.tmp 25) 38 tU rfl hu (by kernel_rfl) (g := g) (n := n) (c := cap) (k := k) (m := n - (k + 1)) (c2 := cap - (k + 1)) (A := some ⟨g, 0, none⟩) (by simp [Act.eval, Act.put]; omega) (by simp [Act.eval, Act.put]; omega) (by rw [if_pos hc]) rfl (Kd.N_drew HN.out) hk (below_drew (Below.refl _ _)) HB.out ?_; intro w1 hN1 hB1 hg1)
 case' neg =>
  go_region_law_o (refine Kd.N_delete_step kU (w0 := w) base (by rfl) (.tmp 22) (.tmp 25) 38 tU rfl hu (by kernel_rfl) (g := g) (n := n) (c := cap) (k := k) (m := n - (k + 1)) (c2 := cap - (k + 1)) (A := some ⟨g, (k + 1) * 3, none⟩) (by simp [Act.eval, Act.put]) (by simp [Act.eval, Act.put]) (by rw [if_neg hc]; simp [Addr.add]; rfl) rfl (Kd.N_drew HN.out) hk (below_drew (Below.refl _ _)) HB.out ?_; intro w1 hN1 hB1 hg1)
 all_goals
  obtain ⟨hgb, cur, hRow⟩ := Row.of_N hN1
  obtain ⟨n1, hn1⟩ : ∃ n1, n = n1 + 1 := ⟨n - 1, by omega⟩
  have hrow : Row kU w1 (fun k => ok k ∧ k ≠ g) g tU n1 cap (l.eraseIdx k) cur := by
   rw [show n - 1 = n1 by omega] at hRow
   exact hRow
  have hclr := fun cc => run_clear_one (P := Tryz.prog) w1 38 tU 0 z3 hu zero_up g (n1 * 3) cc (by decide) (by kernel_rfl) (fun j hj => hrow.cell (n1 * 3 + j) (by
   have h3 : j < 3 := hj
   show n1 * 3 + j < cap * 3
   omega)) (fun j _ => hrow.thaw _)
  obtain ⟨cur1, hR1⟩ := hrow.spare (n1 * 3) z3.toList (Nat.le_refl _) (by show n1 * 3 + 3 ≤ cap * 3; omega)
  have HR1 := Aside0.mk (hR1.rd)
  have HB1 := Aside0.mk (hB1.grown (setCells_grown w1 g (n1 * 3) z3.toList) (Nat.le_trans HB.out hB1.size) (fun k e => by cases e; exact hg))
  have HOK := Aside0.mk (Kd.N_slice HN.out)
  clear hN1 hB1 hg1 hRow hrow hR1
  go_wp2
  go_ret
  have ho : ok g := HN.out.1 g rfl
  refine ⟨.slice (some ⟨g, 0, none⟩) n1 cap, by first | rfl | (rw [hc]; rfl), Kd.V_mono HR1.out ?_, HB1.out⟩
  rintro k (hk | rfl)
  ·exact hk.1
  ·exact ho
end Go.Proofs.YtpccbmechgkogaaGreatDoor.UDel
namespace Go.Proofs.YtpccbmechgkogaaGreatDoor.PtAbort
open Go.RowKit Go.Proofs.YtpccbmechgkogaaGreatDoor.P Go.Proofs.YtpccbmechgkogaaGreatDoorW.PrintWords Go.Proofs.YtpccbmechgkogaaGreatDoor.PureKit Go.Proofs.YtpccbmechgkogaaGreatDoor.BkSpec Go.Proofs.YtpccbmechgkogaaGreatDoor.Wk Go.Proofs.YtpccbmechgkogaaGreatDoor.PtBegin
def Erased (l r : List U) : Prop := ∃ k, k < l.length ∧ r = l.eraseIdx k
theorem parts_len {l : List U} (hp : partsB l = true) : l.length ≤ 10 := by unfold partsB at hp; simp only [Bool.and_eq_true, decide_eq_true_eq] at hp; exact hp.1.1
set_option maxRecDepth 100000 in
set_option maxHeartbeats 3200000 in
theorem abort_any (w : World) (ok : Nat → Prop) (v : Value) (l : List U) (id : Int) (hp : partsB l = true) (h : Rd kU w ok v l) :
  Calls Tryz.prog 111 #[v, .int .u64 id] w (Ups w ok (Erased l)) := by
 have hb := Kd.V_bound h
 obtain ⟨A, c, rfl, hc, hF⟩ := hb
 have hlen := parts_len hp
 have C1 := PtPlace.place_any A c l id w hp (Kd.F_now hF) hc
 have CC := Aside0.mk (fun (W : World) (hW : Below w.heap.size w W) => ClU.clone_any W (fun k => ok k ∧ k < w.heap.size) (fun k hk => Nat.lt_of_lt_of_le hk.2 hW.size) A c l (Kd.F_below hF hW) (by omega))
 have HLen := Aside0.mk hlen
 clear h hF hp hlen hc
 go_enter Tryz.func111, Tryz.ntmps111
 go_wp2_with fail
 refine C1.mono ?_
 rintro en w1 ⟨hen, hb1⟩
 have HB1 := Aside0.mk hb1
 clear hb1 C1
 rcases hen with rfl | ⟨k, hk, -, rfl⟩
 ·go_wp2_with fail
  go_ret2
  exact ⟨_, [], 4, rfl, Kd.V_nil _ _ _ _ _, (fun h => absurd h (by decide)), HB1.out⟩
 ·have HK := Aside0.mk hk
  have f1 : IntKind.i64.wrap ((k : Int) + 1) = (k : Int) + 1 := by rw [IntKind.wrap_i64]; have := HLen.out; omega
  clear hk
  go_wp2_with fail
  refine (CC.out _ HB1.out).mono ?_
  rintro en w2 ⟨v2, rfl, hN, hb2⟩
  have HN := Aside0.mk hN
  have HB2 := Aside0.mk (below_step HB1.out hb2)
  have HS := Aside0.mk HB1.out.size
  clear hN hb2 CC HB1
  go_wp2_with fail
  refine (UDel.delete_any w2 w.heap.size _ v2 l k HK.out (by have := HLen.out; omega) (Kd.N_lower HN.out HS.out) HB2.out.size).mono ?_
  rintro en w3 ⟨v3, rfl, hR, hb3⟩
  have HR := Aside0.mk hR
  have HB3 := Aside0.mk (HB2.out.trans hb3)
  clear hR hb3 HN HB2
  go_wp2_with fail
  go_ret2
  refine ⟨v3, _, 0, rfl, Kd.V_mono HR.out ?_, fun _ => ⟨k, HK.out, rfl⟩, HB3.out⟩
  rintro k (hk | hk)
  ·exact .inl hk.1
  ·exact .inr (Nat.le_trans HS.out hk)
abbrev kP := k119
def Found (w : World) (ok : Nat → Prop) (l : List U) (en : Ending) (w' : World) : Prop :=
 ∃ (u : U) (v : Value) (er : Int), en = .returned (.tuple #[.agg #[.int .u64 u.f0, .string u.f1, v], .int .i64 er]) ∧ Rd kP w' ok v u.f2 ∧ (er = 0 → u ∈ l) ∧ (er ≠ 0 → u = ⟨0, ⟨#[]⟩, []⟩) ∧ Below w.heap.size w w'
set_option maxRecDepth 100000 in
set_option maxHeartbeats 3200000 in
theorem find_any (w : World) (ok : Nat → Prop) (v : Value) (l : List U) (id : Int) (hp : partsB l = true) (h : Rd kU w ok v l) :
  Calls Tryz.prog 112 #[v, .int .u64 id] w (Found w ok l) := by
 have hb := Kd.V_bound h
 obtain ⟨A, c, rfl, hc, hF⟩ := hb
 clear h
 have hlen := parts_len hp
 have hu := Tryz.underlying131
 have HB0 := Aside0.mk (below_alloc (Below.refl w.heap.size w) (.cells #[.int .u64 0, .string ⟨#[]⟩, .slice none 0 0] tU))
 have C1 := PtPlace.place_any A c l id _ hp (Kd.C_below (Kd.F_now hF) HB0.out) hc
 have HF := Aside0.mk hF
 clear hF hp hlen hc
 go_enter Tryz.func112, Tryz.ntmps112
 go_wp2_with fail
 refine C1.mono ?_
 rintro en w1 ⟨hen, hb1⟩
 have HB1 := Aside0.mk (below_step HB0.out hb1)
 have K1 := Aside0.mk (blk_below (blk_new w (.cells #[.int .u64 0, .string ⟨#[]⟩, .slice none 0 0] tU)) hb1)
 have hz := fun j => blk_cell K1.out j
 have hf := fun j => blk_frozen K1.out j
 clear hb1 C1 HB0
 rcases hen with rfl | ⟨k, hk, -, rfl⟩
 ·go_wp2_with fail
  have b1 := blk_set (blk_set (blk_set K1.out 0 (.int .u64 0)) 1 (.string ⟨#[]⟩)) 2 (.slice none 0 0)
  have z := fun j => blk_cell b1 j
  refine bodyPost_ret (v := .tuple #[.agg #[.int .u64 0, .string ⟨#[]⟩, .slice none 0 0], .int .i64 4]) (by simp [results, Tryz.results112, go_sem, z]) rfl ?_
  exact ⟨⟨0, ⟨#[]⟩, []⟩, _, 4, rfl, Kd.V_nil _ _ _ _ _, (fun h => absurd h (by decide)), fun _ => rfl, HB1.out.grown (((grown_set w1 w.heap.size 0 _).trans (grown_set _ _ 1 _)).trans (grown_set _ _ 2 _)) HB1.out.size (fun k e => by cases e; omega)⟩
 ·obtain ⟨ad, c', e0, hcl, hM, hcc, -⟩ := Kd.F_get (Kd.F_below HF.out HB1.out) z131 (k : Int) (by omega) (by omega)
  have hx : l.getD (k : Int).toNat z131 = l[k] := by rw [Int.toNat_natCast, List.getD_eq_getElem?_getD, List.getElem?_eq_getElem hk]; rfl
  rw [hx] at hM
  have hmem : l[k] ∈ l := List.getElem_mem hk
  generalize l[k] = u at hM hmem
  obtain ⟨A2, c2, rfl, hl2, hF2⟩ := k131_openF hM
  subst e0
  rw [Int.toNat_natCast] at hcc
  have h0 : w1.cell? (ad.add (k * 3)) = some (.int .u64 u.f0) := hcc 0 _ rfl
  have h1 : w1.cell? ⟨(ad.add (k * 3)).block, (ad.add (k * 3)).off + 1, none⟩ = some (.string u.f1) := by rw [← add_field _ _ 1 (by omega)]; exact hcc 1 _ rfl
  have h2 : w1.cell? ⟨(ad.add (k * 3)).block, (ad.add (k * 3)).off + 2, none⟩ = some (.slice A2 u.f2.length c2) := by rw [← add_field _ _ 2 (by omega)]; exact hcc 2 _ rfl
  have HM := Aside0.mk hmem
  have HF2 := Aside0.mk hF2
  have i0 : (0 : Int) ≤ (k : Int) := by omega
  have i1 : (k : Int) < (l.length : Int) := by omega
  clear hx hcl hM hcc hmem hF2 hk
  go_wp2_with fail
  have b1 := blk_set (blk_set (blk_set K1.out 0 (.int .u64 u.f0)) 1 (.string u.f1)) 2 (.slice A2 u.f2.length c2)
  have z := fun j => blk_cell b1 j
  refine bodyPost_ret (v := .tuple #[.agg #[.int .u64 u.f0, .string u.f1, .slice A2 u.f2.length c2], .int .i64 0]) (by simp [results, Tryz.results112, go_sem, z]) rfl ?_
  have gS := ((grown_set w1 w.heap.size 0 (.int .u64 u.f0)).trans (grown_set _ _ 1 (.string u.f1))).trans (grown_set _ _ 2 (.slice A2 u.f2.length c2))
  exact ⟨u, _, 0, rfl, ⟨A2, c2, rfl, hl2, Kd.F_mono (Kd.F_grown HF2.out gS (fun k hk e => by have := hk.2; have := Option.some.inj e; omega)) (fun _ hk => hk.1)⟩, fun _ => HM.out, (fun h => absurd rfl h), HB1.out.grown gS HB1.out.size (fun k e => by cases e; omega)⟩
end Go.Proofs.YtpccbmechgkogaaGreatDoor.PtAbort
namespace Go.Proofs.YtpccbmechgkogaaGreatDoor.PtPure
open Go.RowKit Go.Proofs.YtpccbmechgkogaaGreatDoor.P Go.Proofs.YtpccbmechgkogaaGreatDoorW.PrintWords Go.Proofs.YtpccbmechgkogaaGreatDoor.PureKit Go.Proofs.YtpccbmechgkogaaGreatDoor.BkSpec
theorem rise_iff {α : Type} (f : α → Int) : ∀ l : List α, riseBy f l = true ↔ l.Pairwise (fun a b => f a < f b)
 | [] => by simp [riseBy]
 | [a] => by simp [riseBy]
 | a :: b :: r => by
  have ih := rise_iff f (b :: r)
  simp only [riseBy, Bool.and_eq_true, decide_eq_true_eq, ih]
  constructor
  ·rintro ⟨h1, h2⟩
   refine List.pairwise_cons.2 ⟨fun c hc => ?_, h2⟩
   rcases List.mem_cons.1 hc with rfl | hc
   ·exact h1
   ·have := (List.pairwise_cons.1 h2).1 c hc
    omega
  ·intro h
   exact ⟨(List.pairwise_cons.1 h).1 b (by simp), (List.pairwise_cons.1 h).2⟩
theorem parts_iff {l : List U} : partsB l = true ↔ l.length ≤ 10 ∧ (∀ u ∈ l, upB u = true) ∧ l.Pairwise (fun a b => a.f0 < b.f0) := by
 unfold partsB upsRise
 simp only [Bool.and_eq_true, decide_eq_true_eq, List.all_eq_true, rise_iff]
 exact and_assoc
theorem up_iff {u : U} : upB u = true ↔ 1 ≤ u.f0 ∧ u.f0 ≤ 281474976710655 ∧ Name.keyB u.f1 = true ∧ u.f2.length ≤ 30 ∧ (∀ p ∈ u.f2, partB p = true) ∧ u.f2.Pairwise (fun a b => a.f0 < b.f0) := by
 unfold upB partsRise
 simp only [Bool.and_eq_true, decide_eq_true_eq, List.all_eq_true, rise_iff, and_assoc]
theorem begin_ok {l : List U} {id : Int} {key : ByteArray} (h : partsB l = true) (h1 : 1 ≤ id) (h2 : id ≤ 281474976710655) (hk : Name.keyB key = true) (hl : ∀ u ∈ l, u.f0 < id) (hn : l.length < 10) : partsB (l ++ [⟨id, key, []⟩]) = true := by
 obtain ⟨_, a2, a3⟩ := parts_iff.1 h
 refine parts_iff.2 ⟨by simp; omega, fun u hu => ?_, List.pairwise_append.2 ⟨a3, by simp, fun u hu v hv => ?_⟩⟩
 ·rcases List.mem_append.1 hu with hu | hu
  ·exact a2 u hu
  ·obtain rfl : u = ⟨id, key, []⟩ := by simpa using hu
   exact up_iff.2 ⟨h1, h2, hk, by simp, by simp, by simp⟩
 ·obtain rfl : v = ⟨id, key, []⟩ := by simpa using hv
  exact hl u hu
theorem erase_ok {l : List U} {k : Nat} (h : partsB l = true) : partsB (l.eraseIdx k) = true := by
 obtain ⟨a1, a2, a3⟩ := parts_iff.1 h
 exact parts_iff.2 ⟨Nat.le_trans (List.length_eraseIdx_le l k) a1, fun u hu => a2 u (List.mem_of_mem_eraseIdx hu), a3.sublist (List.eraseIdx_sublist l k)⟩
theorem set_pair {α : Type} (f : α → Int) {l : List α} {k : Nat} (hk : k < l.length) {x : α} (hx : f x = f l[k]) (h : l.Pairwise (fun a b => f a < f b)) : (l.set k x).Pairwise (fun a b => f a < f b) := by
 rw [List.pairwise_iff_getElem] at h ⊢
 intro i j hi hj hij
 rw [List.length_set] at hi hj
 have e : ∀ q (hq : q < l.length), f ((l.set k x)[q]'(by rw [List.length_set]; exact hq)) = f l[q] := fun q hq => by
  rw [List.getElem_set]
  split
  ·rename_i hkq; subst hkq; exact hx
  ·rfl
 rw [e i hi, e j hj]
 exact h i j hi hj hij
theorem lay_ok {l : List U} {k : Nat} (hk : k < l.length) (h : partsB l = true) (ps : List P) (hl : ps.length ≤ 30) (hp : ∀ p ∈ ps, partB p = true) (hr : ps.Pairwise (fun a b => a.f0 < b.f0)) : partsB (l.set k ⟨l[k].f0, l[k].f1, ps⟩) = true ∧ ∀ u ∈ l.set k ⟨l[k].f0, l[k].f1, ps⟩, ∃ u' ∈ l, u.f0 = u'.f0 := by
 obtain ⟨a1, a2, a3⟩ := parts_iff.1 h
 have hu := up_iff.1 (a2 _ (List.getElem_mem hk))
 refine ⟨parts_iff.2 ⟨by rw [List.length_set]; exact a1, fun u hmem => ?_, set_pair (fun u : U => u.f0) hk rfl a3⟩, fun u hmem => ?_⟩
 ·rcases List.mem_or_eq_of_mem_set hmem with hm | rfl
  ·exact a2 u hm
  ·exact up_iff.2 ⟨hu.1, hu.2.1, hu.2.2.1, hl, hp, hr⟩
 ·rcases List.mem_or_eq_of_mem_set hmem with hm | rfl
  ·exact ⟨u, hm, rfl⟩
  ·exact ⟨_, List.getElem_mem hk, rfl⟩
theorem set_ok {u : U} (h : upB u = true) {k : Nat} (hk : k < u.f2.length) {x : P} (hx : partB x = true) (he : u.f2[k].f0 = x.f0) : (u.f2.set k x).length ≤ 30 ∧ (∀ p ∈ u.f2.set k x, partB p = true) ∧ (u.f2.set k x).Pairwise (fun a b => a.f0 < b.f0) := by
 obtain ⟨_, _, _, h4, h5, h6⟩ := up_iff.1 h
 refine ⟨by rw [List.length_set]; exact h4, fun p hp => ?_, set_pair (fun p : P => p.f0) hk he.symm h6⟩
 rcases List.mem_or_eq_of_mem_set hp with hm | rfl
 ·exact h5 p hm
 ·exact hx
theorem ins_ok {u : U} (h : upB u = true) {k : Nat} (hk : k ≤ u.f2.length) {x : P} (hx : partB x = true) (hn : u.f2.length ≠ 30) (h1 : ∀ j (hj : j < u.f2.length), j < k → u.f2[j].f0 < x.f0) (h2 : ∀ j (hj : j < u.f2.length), k ≤ j → x.f0 ≤ u.f2[j].f0) (h3 : ¬ ∃ hj : k < u.f2.length, u.f2[k].f0 = x.f0) :
  (u.f2.take k ++ [x] ++ u.f2.drop k).length ≤ 30 ∧ (∀ p ∈ u.f2.take k ++ [x] ++ u.f2.drop k, partB p = true) ∧ (u.f2.take k ++ [x] ++ u.f2.drop k).Pairwise (fun a b => a.f0 < b.f0) := by
 obtain ⟨_, _, _, h4, h5, h6⟩ := up_iff.1 h
 have ha : ∀ p ∈ u.f2.take k, p.f0 < x.f0 := fun p hp => by
  obtain ⟨j, hj, rfl⟩ := List.getElem_of_mem hp
  rw [List.length_take] at hj
  rw [List.getElem_take]
  exact h1 j (by omega) (by omega)
 have hb : ∀ p ∈ u.f2.drop k, x.f0 < p.f0 := fun p hp => by
  obtain ⟨j, hj, rfl⟩ := List.getElem_of_mem hp
  rw [List.length_drop] at hj
  rw [List.getElem_drop]
  have h7 := h2 (k + j) (by omega) (by omega)
  have hkl : k < u.f2.length := by omega
  have h8 : u.f2[k].f0 ≠ x.f0 := fun e => h3 ⟨hkl, e⟩
  have h9 := h2 k hkl (Nat.le_refl _)
  by_cases hz : j = 0
  ·subst hz
   simp only [Nat.add_zero] at h7 ⊢
   omega
  ·have := (List.pairwise_iff_getElem.1 h6) k (k + j) hkl (by omega) (by omega)
   omega
 refine ⟨?_, fun p hp => ?_, List.pairwise_append.2 ⟨List.pairwise_append.2 ⟨h6.sublist (List.take_sublist _ _), by simp, fun a haa b hbb => ?_⟩, h6.sublist (List.drop_sublist _ _), fun a haa b hbb => ?_⟩⟩
 ·simp only [List.length_append, List.length_take, List.length_drop, List.length_singleton]
  omega
 ·rcases List.mem_append.1 hp with hp | hp
  ·rcases List.mem_append.1 hp with hp | hp
   ·exact h5 p (List.mem_of_mem_take hp)
   ·obtain rfl : p = x := by simpa using hp
    exact hx
  ·exact h5 p (List.mem_of_mem_drop hp)
 ·obtain rfl : b = x := by simpa using hbb
  exact ha a haa
 ·have h7 := hb b hbb
  rcases List.mem_append.1 haa with haa | haa
  ·have := ha a haa
   omega
  ·obtain rfl : a = x := by simpa using haa
   exact h7
end Go.Proofs.YtpccbmechgkogaaGreatDoor.PtPure
