/-
  Lemmas: VGrow, VIns, VRoom, VInsAny, VWithout.
-/
import Derived.Shelf.Spec.SlicesInsert
import Derived.Shelf.RegionOpenPlain
import Derived.Test.YtpccbmechgkogaaGreatDoorProg
import Derived.Lib.Overlaps
import Derived.Test.YtpccbmechgkogaaGreatDoorV0
import Derived.Test.YtpccbmechgkogaaGreatDoorZ00
import Derived.Test.YtpccbmechgkogaaGreatDoorZ07
import Derived.Test.YtpccbmechgkogaaGreatDoorZ08
import Derived.Test.YtpccbmechgkogaaGreatDoorZ11
import Derived.Test.YtpccbmechgkogaaGreatDoorZ12
set_option linter.unusedVariables false
set_option linter.unusedSimpArgs false
namespace Go.Proofs.YtpccbmechgkogaaGreatDoor.VGrow
open Go.RowKit Go.Proofs.YtpccbmechgkogaaGreatDoor.P Go.Proofs.YtpccbmechgkogaaGreatDoorW.PrintWords Go.Proofs.YtpccbmechgkogaaGreatDoorW.PrintLast Go.Proofs.YtpccbmechgkogaaGreatDoorW.PrintMore Go.Proofs.YtpccbmechgkogaaGreatDoor.IdxV Go.Proofs.YtpccbmechgkogaaGreatDoor.VDel Go.Proofs.YtpccbmechgkogaaGreatDoor.VCopy Go.Proofs.YtpccbmechgkogaaGreatDoor.VApp Go.Proofs.YtpccbmechgkogaaGreatDoor.VZeros Go.Proofs.YtpccbmechgkogaaGreatDoor.VFill
theorem info_ver : ∃ i : TypeInfo, Tryz.prog.info? 63 = some i ∧ i.zero = some (.agg z4) ∧ i.size = 4 ∧ i.bytes = 40 := by
 obtain ⟨i, hi, h⟩ := Option.map_eq_some_iff.1 info63
 simp only [Prod.mk.injEq] at h
 exact ⟨i, hi, h.1, h.2.1, h.2.2⟩
theorem reps_zeros (w : World) (base : Nat) (ok : Nat → Prop) : ∀ m, Reps (k63.M w base ok) 4 (List.replicate m z63) (zs m)
 | 0 => by rw [zs_zero]; exact Reps.none _ _
 | m + 1 => by
  rw [zs_succ]
  refine ⟨by rw [List.length_append, zs_len, List.length_replicate]; simp; omega, fun j p hj => ?_⟩
  obtain rfl : p = z63 := by
   have := List.mem_of_getElem? hj
   exact List.eq_of_mem_replicate this
  cases j with
  | zero => exact k63_mkM _ _ _ _
  | succ j =>
   have ih := (reps_zeros w base ok m).2 j z63 (by
    rw [List.getElem?_replicate] at hj ⊢
    split at hj
    ·rw [if_pos (by omega)]
    ·cases hj)
   rw [show (j + 1) * 4 = 4 + j * 4 by omega]
   have e : List.drop (4 + j * 4) ([.int .u64 0, .string ⟨#[]⟩, .bool false, .int .i64 0] ++ zs m) = List.drop (j * 4) (zs m) := by
    rw [Nat.add_comm]
    rfl
   rw [e]
   exact ih
theorem zeros_row (base : Nat) (w : World) (m c : Nat) (hb : base ≤ w.heap.size) (hmc : m ≤ c) (hc : c ≤ 9223372036854775807) :
  Kd.R k63 63 (w.drew.alloc (.cells (Builtin.zeroCells z4 m ++ Builtin.zeroCells z4 (c - m)) 63)) base (fun _ => True) (.slice (some ⟨w.heap.size, 0, none⟩) m c) (List.replicate m z63) := by
 have hz : ∀ k, (Builtin.zeroCells z4 k).size = k * 4 := fun k => by simp [Builtin.zeroCells, z4]
 refine ⟨fun _ _ => trivial, zs m, ⟨?_, .inr ⟨w.heap.size, c, _, ?_, hb, Array.getElem?_push_size, ?_, hc, ?_, ?_⟩⟩, reps_zeros _ _ _ m⟩
 ·rw [zs_len, List.length_replicate]; rfl
 ·rw [List.length_replicate]
 ·rw [List.length_replicate]; exact hmc
 ·show (Builtin.zeroCells z4 m ++ Builtin.zeroCells z4 (c - m)).size = c * 4
  rw [Array.size_append, hz, hz]
  omega
 ·show (Builtin.zeroCells z4 m ++ Builtin.zeroCells z4 (c - m)).toList.take ((List.replicate m z63).length * 4) = zs m
  rw [List.length_replicate, Array.toList_append]
  exact List.take_left' (zs_len m)
theorem flat_of {w : World} : ∀ (l : List S63) (news : List Value), Reps (k63.K w) 4 l news → news = l.flatMap cs
 | [], news, h => by
  have := h.1
  simp at this
  simp [this]
 | x :: l, news, h => by
  have h0 := h.2 0 x rfl
  have e0 := k63_open h0
  rw [Nat.zero_mul, List.drop_zero] at e0
  have e0 : news.take 4 = cs x := e0
  have hr : Reps (k63.K w) 4 l (news.drop 4) := ⟨by rw [List.length_drop, h.1, List.length_cons]; omega, fun j p hj => by
   have := h.2 (j + 1) p (by simpa using hj)
   rw [List.drop_drop, show 4 + j * 4 = (j + 1) * 4 by omega]
   exact this⟩
  rw [List.flatMap_cons, ← flat_of l _ hr, ← e0, List.take_append_drop]
theorem flat_cells {w : World} {ad : Addr} {n : Nat} {l : List S63} (h : Kd.C k63 w (some ad) n l) : ∀ j v, (l.flatMap cs)[j]? = some v → w.cell? (ad.add j) = some v := by
 obtain ⟨news, h1, h2⟩ := ReadsRow.inner_ h
 rw [← flat_of l news h1]
 exact h2
theorem flat_len : ∀ l : List S63, (l.flatMap cs).length = l.length * 4
 | [] => rfl
 | x :: l => by
  rw [List.flatMap_cons, List.length_append, flat_len l, List.length_cons, Nat.succ_mul, Nat.add_comm]
  rfl
set_option maxRecDepth 100000 in
set_option maxHeartbeats 3200000 in
theorem insert_grow (base gb c0 : Nat) (w : World) (B : Option Addr) (cb : Nat) (x : S63) (l : List S63) (hne : 0 < l.length) (hlen : l.length < 3518437208) (hroom : c0 < l.length + 1)
  (hr : Kd.R k63 63 w base (fun _ => True) (.slice (some ⟨gb, 0, none⟩) l.length c0) l) (hx : Kd.C k63 w B 1 [x]) (hcb : 1 ≤ cb) (hbs : base ≤ w.heap.size) :
  Calls Tryz.prog 175 #[.slice (some ⟨gb, 0, none⟩) l.length c0, .int .i64 0, .slice B 1 cb] w fun e w' =>
   ∃ v', e = .returned v' ∧ Kd.R k63 63 w' base (fun _ => True) v' (x :: l) ∧ Below base w w' := by
 obtain ⟨i, hi, hz, hs, hby⟩ := info_ver
 have hzr := run_zeros_grow (P := Tryz.prog) w 97 3 97 63 i (.agg z4) Tryz.underlying97 Tryz.underlying3 hi hz (by omega) .i64 (some ⟨gb, 0, none⟩) c0 (l.length + 1) hroom (by rw [hby]; omega) (by omega)
 obtain ⟨_, hnc, hC⟩ := Kd.R_reads' hr
 obtain ⟨gs, hgs, hcap⟩ : ∃ gs, grownCap w (l.length + 1) c0 63 = gs ∧ l.length + 1 ≤ gs := ⟨_, rfl, grownCap_ge w _ _ _⟩
 have hmx : gs ≤ 9223372036854775807 := hgs ▸ grownCap_le_maxLen w (l.length + 1) c0 63 (by simp only [maxLen]; omega)
 rw [hgs] at hzr
 obtain ⟨W1, hW1⟩ : ∃ W1, W1 = w.drew.alloc (.cells (Builtin.zeroCells z4 (l.length + 1) ++ Builtin.zeroCells z4 (gs - (l.length + 1))) 63) := ⟨_, rfl⟩
 have hR1 := zeros_row base w (l.length + 1) gs hbs hcap hmx
 have hB1 : Below w.heap.size w W1 := by rw [hW1]; exact below_alloc (below_drew (Below.refl _ _)) _
 rw [← hW1] at hR1
 have hzr' : (Builtin.append_ #[97, 3] 97 #[.slice (some ⟨gb, 0, none⟩) 0 c0, .int .i64 ((l.length : Int) + 1)]).run Tryz.prog w = .ok (.slice (some ⟨w.heap.size, 0, none⟩) (l.length + 1) gs) W1 := by rw [hW1]; exact hzr
 obtain ⟨ad, hBe, hcx⟩ := hx.2.2 (by decide)
 subst hBe
 obtain ⟨cx, hcxl, hKx, hcxc⟩ := hcx 0 x rfl
 obtain rfl := k63_open hKx
 have at1 : ∀ k, k < l.length + 1 → ∀ j, j < 4 → (∃ v, W1.cell? ⟨w.heap.size, k * 4 + j, none⟩ = some v) ∧ W1.frozen? ⟨w.heap.size, k * 4 + j, none⟩ = false := fun k hk j hj => by
  obtain ⟨c, hcl, _, hcc, hfr⟩ := Kd.R_elem hR1 z63 (k : Int) (by omega) (by omega)
  have h4 : j < c.length := by rw [hcl]; exact hj
  exact ⟨⟨_, hcc j _ (List.getElem?_eq_getElem h4)⟩, hfr j⟩
 have hs4 : (Tryz.prog.info? 63).map (·.size) = some 4 := by rw [hi]; simp [hs]
 have hc1 := run_copy_rows (P := Tryz.prog) W1 97 66 3 63 4 w.heap.size 0 (l.length + 1) gs ad 1 cb 1 (cs x) Tryz.underlying97 hs4 (by show 1 = min 1 (l.length + 1); omega) rfl
  (fun j v hj => by
   have := hcxc j v hj
   rw [Nat.zero_mul, Nat.zero_add] at this
   exact (hB1.cell (World.block_lt_of_cell? _ _ this)).trans this)
  (fun j hj => by obtain ⟨⟨v, hv⟩, _⟩ := at1 0 (by omega) j hj; rw [Nat.zero_mul] at hv; rw [hv]; rfl)
  (fun j hj => by have := (at1 0 (by omega) j hj).2; rw [Nat.zero_mul] at this; exact this)
  (fun v hv => by
   simp only [cs, List.mem_cons, List.not_mem_nil, or_false] at hv
   rcases hv with rfl | rfl | rfl | rfl <;> rfl)
 have hmix : Tryz.prog.follows Departure.mixedOrders = true := by kernel_rfl
 have hw1 : IntKind.i64.wrap 1 = 1 := rfl
 have hb1 : (1 : Int) ≤ (l.length : Int) + 1 := by omega
 have hg1 : ¬ (gs = 1) := by omega
 have htn : (1 : Int).toNat = 1 := rfl
 have e1 : ([x] : List S63).flatMap cs = cs x := by simp
 obtain ⟨hR2, hG2⟩ := copied [x] 0 _ W1 hR1 (by simp)
 rw [Nat.zero_mul, e1] at hR2 hG2
 have e2 : (List.replicate (l.length + 1) z63).take 0 ++ [x] ++ (List.replicate (l.length + 1) z63).drop (0 + [x].length) = x :: List.replicate l.length z63 := by simp [List.drop_replicate]
 rw [e2] at hR2
 have hR2' := Kd.R_drew hR2
 obtain ⟨hR3, hG3⟩ := copied l 1 _ _ hR2' (by omega)
 have e3 : (x :: List.replicate l.length z63).take 1 ++ l ++ (x :: List.replicate l.length z63).drop (1 + l.length) = x :: l := by
  rw [List.drop_of_length_le (by simp; omega)]
  simp
 rw [e3] at hR3
 have hgbw : gb < w.heap.size := by
  obtain ⟨g2, c2, he, h1, h2, _⟩ := Kd.R_form hr hne
  simp only [Value.slice.injEq, Option.some.injEq, Addr.mk.injEq] at he
  omega
 have hfl := flat_len l
 have at2 : ∀ j, j < l.length * 4 → (∃ v, (W1.setCells w.heap.size 0 (cs x)).drew.cell? ⟨w.heap.size, 4 + j, none⟩ = some v) ∧ (W1.setCells w.heap.size 0 (cs x)).drew.frozen? ⟨w.heap.size, 4 + j, none⟩ = false := fun j hj => by
  obtain ⟨c, hcl, _, hcc, hfr⟩ := Kd.R_elem hR2' z63 ((1 + j / 4 : Nat) : Int) (by omega) (by omega)
  have e : 4 + j = (((1 + j / 4 : Nat) : Int)).toNat * 4 + j % 4 := by rw [Int.toNat_natCast]; omega
  have h4 : j % 4 < c.length := by rw [hcl]; exact Nat.mod_lt _ (by decide)
  rw [e]
  exact ⟨⟨_, hcc (j % 4) _ (List.getElem?_eq_getElem h4)⟩, hfr (j % 4)⟩
 have hc2 := run_copy_rows (P := Tryz.prog) (W1.setCells w.heap.size 0 (cs x)).drew 97 97 3 63 4 w.heap.size 4 l.length (gs - 1) ⟨gb, 0, none⟩ l.length c0 l.length (l.flatMap cs) Tryz.underlying97 hs4 (by show l.length = min l.length l.length; omega) hfl
  (fun j v hj => by
   have h := flat_cells hC j v hj
   rw [Addr.add_lit] at h ⊢
   have h2 := (hB1.cell (World.block_lt_of_cell? _ _ h)).trans h
   exact (hG2.cell_far _ (World.block_lt_of_cell? _ _ h2) (fun e => by
    have e2 : gb = w.heap.size := Option.some.inj e
    omega)).trans h2)
  (fun j hj => by obtain ⟨⟨v, hv⟩, _⟩ := at2 j (by omega); rw [hv]; rfl)
  (fun j hj => (at2 j (by omega)).2)
  (fun v hv => by
   obtain ⟨y, _, hy⟩ := List.mem_flatMap.1 hv
   simp only [cs, List.mem_cons, List.not_mem_nil, or_false] at hy
   rcases hy with rfl | rfl | rfl | rfl <;> rfl)
 have HC2 := Aside0.mk hc2
 have b1 : Below base w W1 := ⟨hB1.os, hB1.tape, hB1.output, hB1.size, fun k hk => hB1.block k (by omega)⟩
 have b2 := b1.grown hG2 (Nat.le_trans hbs b1.size) (fun k e => by cases e; exact hbs)
 have b3 := below_drew b2
 have b4 := b3.grown hG3 (Nat.le_trans hbs b3.size) (fun k e => by cases e; exact hbs)
 have HE := Aside0.mk (And.intro hR3 b4)
 clear at2 b1 b2 b3 b4 hc2 hR2 hR2' hR3 hG2 hG3 e1 e2 e3 hfl hgbw
 have HZ := Aside0.mk hzr'
 rw [show (goInt ((1 : Nat) : Int)) = .int .i64 1 from rfl] at hc1
 have HR1 := Aside0.mk hR1
 have HB1 := Aside0.mk hB1
 have HC := Aside0.mk hC
 have HBS := Aside0.mk hbs
 clear hzr hzr' hr hx hbs hi hz hs hby hgs hW1 hR1 hB1 hC hcx hcxl hKx hcxc at1 hmx
 have hu := Tryz.underlying63
 have h0 : ((l.length : Int) == 0) = false := by rw [beq_eq_false_iff_ne]; omega
 have h0' : ((0 : Int) == (l.length : Int)) = false := by rw [beq_eq_false_iff_ne]; omega
 go_enter Tryz.func175, Tryz.ntmps175
 go_wp2_with ((with_reducible refine gate_builtin (b := .append) (xs := #[.tmp 34, .tmp 39]) rfl ?_); at_builtin; refine wpList_append_run rfl (.tmp 34) (.tmp 39) 97 3 rfl rfl rfl HZ.out ?_)
 go_region_law_o (refine step_copy_runI rfl _ _ 97 97 rfl (.slice (some ⟨w.heap.size, 4, none⟩) l.length (gs - 1)) (.slice (some ⟨gb, 0, none⟩) l.length c0) (by simp [Act.eval, Act.put]) (by simp [Act.eval, Act.put]) HC2.out ?_)
 go_wp2
 go_ret
 exact ⟨_, rfl, HE.out.1, HE.out.2⟩
end Go.Proofs.YtpccbmechgkogaaGreatDoor.VGrow
namespace Go.Proofs.YtpccbmechgkogaaGreatDoor.VIns
open Go.RowKit Go.Proofs.YtpccbmechgkogaaGreatDoor.P Go.Proofs.YtpccbmechgkogaaGreatDoorW.PrintWords Go.Proofs.YtpccbmechgkogaaGreatDoor.VApp
set_option maxRecDepth 100000 in
set_option maxHeartbeats 1600000 in
theorem insert_empty (base : Nat) (A : Option Addr) (c0 : Nat) (w : World) (B : Option Addr) (cb : Nat) (x : S63)
  (hr : Kd.R k63 63 w base (fun _ => True) (.slice A 0 c0) []) (hx : Kd.C k63 w B 1 [x]) (hcb : 1 ≤ cb) (hbs : base ≤ w.heap.size) :
  Calls Tryz.prog 175 #[.slice A 0 c0, .int .i64 0, .slice B 1 cb] w fun e w' =>
   ∃ v', e = .returned v' ∧ Kd.R k63 63 w' base (fun _ => True) v' [x] ∧ Below base w w' := by
 obtain ⟨v1, w1, hrun, hR1, hB1⟩ := rows_run base w 97 (.slice A 0 c0) [] [x] B 1 cb hr hx hbs (by simp)
 have happ := (append_run w 97 66 63 63 97 Tryz.underlying97 Tryz.underlying66 (.slice A 0 c0) B 1 cb).trans hrun
 have HE := Aside0.mk (And.intro hR1 hB1)
 have HAP := Aside0.mk happ
 clear hr hx hbs hR1 hB1 hrun happ
 have hu := Tryz.underlying63
 go_enter Tryz.func175, Tryz.ntmps175
 go_wp2_with ((with_reducible refine gate_builtin (b := .append) (xs := #[.tmp 23, .tmp 24]) rfl ?_); at_builtin; refine wpList_append_run rfl (.tmp 23) (.tmp 24) 97 66 rfl rfl rfl HAP.out ?_)
 go_ret
 exact ⟨_, rfl, HE.out.1, HE.out.2⟩
end Go.Proofs.YtpccbmechgkogaaGreatDoor.VIns
namespace Go.Proofs.YtpccbmechgkogaaGreatDoor.VRoom
open Go.RowKit Go.Proofs.YtpccbmechgkogaaGreatDoor.P Go.Proofs.YtpccbmechgkogaaGreatDoorW.PrintWords Go.Proofs.YtpccbmechgkogaaGreatDoorW.PrintLast Go.Proofs.YtpccbmechgkogaaGreatDoorW.PrintMore Go.Proofs.YtpccbmechgkogaaGreatDoor.IdxV Go.Proofs.YtpccbmechgkogaaGreatDoor.VDel Go.Proofs.YtpccbmechgkogaaGreatDoor.VCopy Go.Proofs.YtpccbmechgkogaaGreatDoor.VApp Go.Proofs.YtpccbmechgkogaaGreatDoor.VZeros Go.Proofs.YtpccbmechgkogaaGreatDoor.VFill Go.Proofs.YtpccbmechgkogaaGreatDoor.VGrow
theorem reps_of (w : World) (base : Nat) (ok : Nat → Prop) : ∀ l : List S63, Reps (k63.M w base ok) 4 l (l.flatMap cs)
 | [] => Reps.none _ _
 | x :: l => by
  refine ⟨flat_len (x :: l), fun j p hj => ?_⟩
  rw [List.flatMap_cons]
  cases j with
  | zero =>
   obtain rfl : x = p := by simpa using hj
   exact k63_mkM _ _ _ _
  | succ j =>
   have ih := (reps_of w base ok l).2 j p (by simpa using hj)
   rw [show (j + 1) * 4 = j * 4 + 4 by omega]
   exact ih
theorem room_row (base gb c0 : Nat) (w : World) (x : S63) (l : List S63) (hne : 0 < l.length) (hroom : l.length + 1 ≤ c0)
  (hr : Kd.R k63 63 w base (fun _ => True) (.slice (some ⟨gb, 0, none⟩) l.length c0) l) :
  Kd.R k63 63 ((w.drew.setCells gb 4 (l.flatMap cs)).setCells gb 0 (cs x)) base (fun _ => True) (.slice (some ⟨gb, 0, none⟩) (l.length + 1) c0) (x :: l) := by
 obtain ⟨_, inner, ⟨hil, hor⟩, _⟩ := hr
 rcases hor with ⟨he, _⟩ | ⟨g, cap, cur, he, hbg, hg, hnc, hcm, hcs, htake⟩
 ·cases he
 ·cases he
  have hcs' : cur.size = c0 * 4 := hcs
  have hg' : w.drew.heap[gb]? = some (.cells cur 63 (0, 0)) := hg
  obtain ⟨cur1, h1, h2, h3⟩ := setCells_row (l.flatMap cs) 4 w.drew cur hg' (by rw [flat_len]; omega)
  obtain ⟨cur2, k1, k2, k3⟩ := setCells_row (cs x) 0 _ cur1 h1 (by show 0 + 4 ≤ _; omega)
  refine ⟨fun _ _ => trivial, (x :: l).flatMap cs, ⟨flat_len _, .inr ⟨gb, c0, cur2, rfl, hbg, k1, hroom, hcm, by rw [k2, h2]; exact hcs, ?_⟩⟩, reps_of _ _ _ _⟩
  have hd : cur1.toList.drop 4 = l.flatMap cs ++ cur.toList.drop (4 + (l.flatMap cs).length) := by
   rw [h3, List.append_assoc]
   exact List.drop_left' (by rw [List.length_take, Array.length_toList]; omega)
  have e : cur2.toList = (cs x ++ l.flatMap cs) ++ cur.toList.drop (4 + (l.flatMap cs).length) := by
   rw [k3]
   show [] ++ cs x ++ List.drop (0 + 4) cur1.toList = _
   rw [Nat.zero_add, hd, List.nil_append, List.append_assoc]
  rw [e, List.flatMap_cons]
  refine List.take_left' ?_
  rw [List.length_append, flat_len]
  show 4 + l.length * 4 = (l.length + 1) * 4
  omega
theorem room_grown (gb : Nat) (w : World) (x : S63) (l : List S63) : w.grownBy ((w.drew.setCells gb 4 (l.flatMap cs)).setCells gb 0 (cs x)) (some gb) := by
 obtain ⟨a1, a2, a3, a4⟩ := setCells_same gb (l.flatMap cs) 4 w.drew
 obtain ⟨b1, b2, b3, b4⟩ := setCells_same gb (cs x) 0 (w.drew.setCells gb 4 (l.flatMap cs))
 refine ⟨b1.trans a1, b2.trans a2, b3.trans a3, ?_, fun k hk hne => ?_⟩
 ·rw [b4, a4]
  exact Nat.le_refl _
 ·have hk2 : k ≠ gb := fun e => hne (by rw [e])
  rw [setCells_far _ _ k hk2, setCells_far _ _ k hk2]
  rfl
set_option maxRecDepth 100000 in
set_option maxHeartbeats 3200000 in
theorem insert_room (base gb c0 : Nat) (w : World) (vb cb : Nat) (cv : Array Value) (tv : TypeId) (x : S63) (l : List S63) (hne : 0 < l.length) (hlen : l.length < 3518437208) (hroom : l.length + 1 ≤ c0)
  (hr : Kd.R k63 63 w base (fun _ => True) (.slice (some ⟨gb, 0, none⟩) l.length c0) l) (hv : w.heap[vb]? = some (.cells cv tv (0, 0))) (hx : Kd.C k63 w (some ⟨vb, 0, none⟩) 1 [x]) (hvb : vb ≠ gb) (hcb : 1 ≤ cb) (hbs : base ≤ w.heap.size) :
  Calls Tryz.prog 175 #[.slice (some ⟨gb, 0, none⟩) l.length c0, .int .i64 0, .slice (some ⟨vb, 0, none⟩) 1 cb] w fun e w' =>
   ∃ v', e = .returned v' ∧ Kd.R k63 63 w' base (fun _ => True) v' (x :: l) ∧ Below base w w' := by
 obtain ⟨_, hnc, hC⟩ := Kd.R_reads' hr
 obtain ⟨g2, c2, he, hgb0, hgb1, cur, hcur⟩ := Kd.R_form hr hne
 simp only [Value.slice.injEq, Option.some.injEq, Addr.mk.injEq, and_true, true_and] at he
 obtain ⟨rfl, rfl⟩ := he
 have hov : ∀ n c, (callFunc 199 #[.slice (some ⟨vb, 0, none⟩) 1 cb, .slice (some ⟨gb, 4, none⟩) n c]).run Tryz.prog w = .ok (.value (.bool false)) w := fun n c => by
  rw [run_callFunc_extern Tryz.func199 (by kernel_rfl) (by kernel_rfl) (by kernel_rfl) (e := Extern.SlicesOverlaps.overlaps #[66, 66] #[4]) (by kernel_rfl),
   Lib.run_overlaps_apart (P := Tryz.prog) w 66 4 63 Tryz.underlying66 4 (fun w => by
    obtain ⟨i, hi, _, hs, _⟩ := info_ver
    simp [sizeOf, typeInfo, hi, hs]) ⟨vb, 0, none⟩ ⟨gb, 4, none⟩ 1 cb n c hvb tv 63 cv.size cur.size (by simp [World.shape?, hv]) (by simp [World.shape?, hcur]) (by
    have := (Kd.R_elem hr z63 0 (by omega) (by omega))
    obtain ⟨c, hcl, _, hcc, _⟩ := this
    have h4 : 0 < c.length := by rw [hcl]; decide
    have h5 := hcc 0 _ (List.getElem?_eq_getElem h4)
    intro h0
    have h6 : cur = #[] := Array.eq_empty_of_size_eq_zero h0
    rw [h6] at hcur
    have h7 := (blk_cell hcur 0)
    have h8 : w.cell? ⟨gb, 0, none⟩ = some c[0] := h5
    exact absurd (h8.symm.trans h7) (by simp)) (blk_frozen hv 0) (blk_frozen hv cv.size)]
  rfl
 have hcur4 : (l.length + 1) * 4 ≤ cur.size := by
  obtain ⟨_, inner, ⟨_, hor⟩, _⟩ := hr
  rcases hor with ⟨he, _⟩ | ⟨g, cap, cur', he, _, hg, _, _, hcs, _⟩
  ·cases he
  ·cases he
   rw [hcur] at hg
   cases hg
   have : cur.size = c0 * 4 := hcs
   omega
 have hs4 : (Tryz.prog.info? 63).map (·.size) = some 4 := by
  obtain ⟨i, hi, _, hs, _⟩ := info_ver
  rw [hi]; simp [hs]
 have atw : ∀ j, j < (l.length + 1) * 4 → (w.cell? ⟨gb, j, none⟩).isSome = true := fun j hj => by
  rw [blk_cell hcur j, Array.getElem?_eq_getElem (by omega)]
  rfl
 have one : ∀ (m : List S63), ∀ v ∈ m.flatMap cs, v.oneCell' = true := fun m v hv => by
  obtain ⟨y, _, hy⟩ := List.mem_flatMap.1 hv
  simp only [cs, List.mem_cons, List.not_mem_nil, or_false] at hy
  rcases hy with rfl | rfl | rfl | rfl <;> rfl
 have hc1 := run_copy_rows (P := Tryz.prog) w.drew 97 97 3 63 4 gb 4 l.length (c0 - 1) ⟨gb, 0, none⟩ (l.length + 1) c0 l.length (l.flatMap cs) Tryz.underlying97 hs4 (by show l.length = min (l.length + 1) l.length; omega) (flat_len l)
  (fun j v hj => flat_cells hC j v hj)
  (fun j hj => by rw [flat_len] at hj; exact atw (4 + j) (by omega))
  (fun j _ => blk_frozen hcur _) (one l)
 have e1 : ([x] : List S63).flatMap cs = cs x := by simp
 have hc2 := run_copy_rows (P := Tryz.prog) (w.drew.setCells gb 4 (l.flatMap cs)) 97 66 3 63 4 gb 0 (l.length + 1) c0 ⟨vb, 0, none⟩ 1 cb 1 (cs x) Tryz.underlying97 hs4 (by show 1 = min 1 (l.length + 1); omega) rfl
  (fun j v hj => by
   have h := flat_cells hx j v (by rw [e1]; exact hj)
   rw [Addr.add_lit] at h ⊢
   rw [World.cell?_setCells_out _ _ _ _ _ (fun e _ => absurd e hvb)]
   exact h)
  (fun j hj => by
   have hj4 : j < 4 := hj
   rw [World.cell?_setCells_out _ _ _ _ _ (fun _ _ => .inl (by show 0 + j < 4; omega))]
   exact atw _ (by omega))
  (fun j _ => by rw [World.frozen?_setCells]; exact blk_frozen hcur _) (fun v hv => one [x] v (by rw [e1]; exact hv))
 rw [show (goInt ((1 : Nat) : Int)) = .int .i64 1 from rfl] at hc2
 have b1 : Below base w w := Below.refl _ _
 have HE := Aside0.mk (And.intro (room_row base gb c0 w x l hne hroom hr) (b1.grown (room_grown gb w x l) hbs (fun k e => by cases e; exact hgb0)))
 have HC1 := Aside0.mk hc1
 have hmix : Tryz.prog.follows Departure.mixedOrders = true := by kernel_rfl
 have hw1 : IntKind.i64.wrap 1 = 1 := rfl
 have hb1 : (1 : Int) ≤ (l.length : Int) + 1 := by omega
 have hg1 : ¬ (c0 = 1) := by omega
 have hg2 : ¬ (c0 < l.length + 1) := by omega
 have hg4 : (0 : Int) ≤ (l.length : Int) + 1 := by omega
 have hg3 : (l.length : Int) + 1 ≤ (c0 : Int) := by omega
 have htn : (1 : Int).toNat = 1 := rfl
 have h0 : ((l.length : Int) == 0) = false := by rw [beq_eq_false_iff_ne]; omega
 have h0' : ((0 : Int) == (l.length : Int)) = false := by rw [beq_eq_false_iff_ne]; omega
 clear hr hx hC hbs hgb0 hgb1 hcur hv hcur4 atw one e1 b1 hc1 hs4
 have hu := Tryz.underlying63
 go_enter Tryz.func175, Tryz.ntmps175
 go_wp2
 go_region_law_o (refine step_copy_runI rfl _ _ 97 97 rfl (.slice (some ⟨gb, 4, none⟩) l.length (c0 - 1)) (.slice (some ⟨gb, 0, none⟩) (l.length + 1) c0) (by simp [Act.eval, Act.put]) (by simp [Act.eval, Act.put]) HC1.out ?_)
 go_wp2
 go_ret
 exact ⟨_, rfl, HE.out.1, HE.out.2⟩
end Go.Proofs.YtpccbmechgkogaaGreatDoor.VRoom
namespace Go.Proofs.YtpccbmechgkogaaGreatDoor.VInsAny
open Go.RowKit Go.Proofs.YtpccbmechgkogaaGreatDoor.P Go.Proofs.YtpccbmechgkogaaGreatDoorW.PrintWords Go.Proofs.YtpccbmechgkogaaGreatDoor.IdxV Go.Proofs.YtpccbmechgkogaaGreatDoor.VDel
theorem insert_any (base : Nat) (w : World) (v0 : Value) (vb cb : Nat) (cv : Array Value) (tv : TypeId) (x : S63) (l : List S63) (hlen : l.length < 3518437208)
  (hr : Kd.R k63 63 w base (fun _ => True) v0 l) (hv : w.heap[vb]? = some (.cells cv tv (0, 0))) (hx : Kd.C k63 w (some ⟨vb, 0, none⟩) 1 [x]) (hvb : v0.ownBlock ≠ some vb) (hcb : 1 ≤ cb) (hbs : base ≤ w.heap.size) :
  Calls Tryz.prog 175 #[v0, .int .i64 0, .slice (some ⟨vb, 0, none⟩) 1 cb] w fun e w' =>
   ∃ v', e = .returned v' ∧ Kd.R k63 63 w' base (fun _ => True) v' (x :: l) ∧ Below base w w' := by
 by_cases h0 : 0 < l.length
 ·obtain ⟨gb, c0, rfl, _, _, _⟩ := Kd.R_form hr h0
  have hne : vb ≠ gb := fun e => hvb (by rw [e]; rfl)
  by_cases hroom : c0 < l.length + 1
  ·exact VGrow.insert_grow base gb c0 w _ cb x l h0 hlen hroom hr hx hcb hbs
  ·exact VRoom.insert_room base gb c0 w vb cb cv tv x l h0 hlen (by omega) hr hv hx hne hcb hbs
 ·have hl : l = [] := List.length_eq_zero_iff.1 (by omega)
  subst hl
  obtain ⟨A, c, rfl⟩ := Kd.R_slice hr
  exact VIns.insert_empty base A c w _ cb x hr hx hcb hbs
end Go.Proofs.YtpccbmechgkogaaGreatDoor.VInsAny
namespace Go.Proofs.YtpccbmechgkogaaGreatDoor.VWithout
open Go.RowKit Go.Proofs.YtpccbmechgkogaaGreatDoor.P Go.Proofs.YtpccbmechgkogaaGreatDoorW.PrintWords Go.Proofs.YtpccbmechgkogaaGreatDoor.IdxV Go.Proofs.YtpccbmechgkogaaGreatDoor.VDel
set_option maxRecDepth 100000 in
set_option maxHeartbeats 1600000 in
theorem asks_id (b : Nat) (id : Int) : Asks 181 b (.int .u64 id) (fun x => x.f0 == id) := by
 intro W x hc
 have hu := Tryz.underlying63
 unfold ver
 have hb : Below W.heap.size W (W.alloc (.cells #[.int .u64 x.f0, .string x.f1, .bool x.f2, .int .i64 x.f3] 63)) := (Below.refl _ _).alloc (Nat.le_refl _) _
 have hc2 := (hb.cell (World.block_lt_of_cell? _ _ hc)).trans hc
 clear hb
 go_enter Tryz.func181, Tryz.ntmps181
 go_wp2
 go_ret
 exact ⟨rfl, (Below.refl _ _).alloc (Nat.le_refl _) _⟩
theorem delete_any (g b : Nat) (u : Value) (p : S63 → Bool) (ha : Asks g b u p) (eg : ∀ args w, (callFunc g args).run Tryz.prog w = .ok (.enter g args) w) (base : Nat) (l : List S63) (w : World) (v : Value)
  (hr : Kd.R k63 63 w base (fun _ => True) v l) (hbox : w.cell? ⟨b, 0, none⟩ = some u) (hb : b < base) (hbs : base ≤ w.heap.size) :
  Calls Tryz.prog 180 #[v, .func (.func g) #[] #[.pointer (some ⟨b, 0, none⟩)]] w fun e w' =>
   ∃ v', e = .returned v' ∧ Kd.R k63 63 w' base (fun _ => True) v' (l.filter fun x => !p x) ∧ Below base w w' := by
 by_cases hn : ∀ j (h : j < l.length), p l[j] = false
 ·obtain ⟨A, c, rfl⟩ := Kd.R_slice hr
  obtain ⟨_, _, hC⟩ := Kd.R_reads' hr
  refine (delete_none g b u p ha eg A c l w hC hbox hn).mono ?_
  rintro e w' ⟨rfl, hB⟩
  have hf : (l.filter fun x => !p x) = l := by
   rw [List.filter_eq_self]
   intro x hx
   obtain ⟨j, hj, rfl⟩ := List.getElem_of_mem hx
   rw [hn j hj]
   rfl
  rw [hf]
  exact ⟨_, rfl, Kd.R_below hr hB, ⟨hB.os, hB.tape, hB.output, hB.size, fun i hi => hB.block i (by omega)⟩⟩
 ·obtain ⟨i, hf⟩ : ∃ i, l.findIdx? p = some i := by
   cases hf : l.findIdx? p with
   | some i => exact ⟨i, rfl⟩
   | none =>
    rw [List.findIdx?_eq_none_iff] at hf
    exact absurd (fun j h => hf l[j] (List.getElem_mem h)) hn
  obtain ⟨hi, hp, hlt⟩ := List.findIdx?_eq_some_iff_getElem.1 hf
  obtain ⟨gb, cap, rfl, h1, h2, _⟩ := Kd.R_form hr (by omega)
  refine (delete_some g b u p ha eg gb cap base (fun _ => True) l w hr hbox (by omega) i hi hp (fun j h hj => by simpa using hlt j hj)).mono ?_
  rintro e w' ⟨rfl, hR, hG⟩
  exact ⟨_, rfl, hR, ⟨hG.os, hG.tape, hG.output, hG.size, fun k hk => hG.block k (by omega) (by
   intro e
   have := Option.some.inj e
   omega)⟩⟩
set_option maxRecDepth 100000 in
set_option maxHeartbeats 1600000 in
theorem without_any (A : Option Addr) (c : Nat) (l : List S63) (id : Int) (w : World) (hr : Kd.C k63 w A l.length l) (hl : l.length < 3518437208883) :
  Calls Tryz.prog 143 #[.slice A l.length c, .int .u64 id] w fun e w' =>
   ∃ v', e = .returned v' ∧ Kd.R k63 63 w' w.heap.size (fun _ => True) v' (l.filter fun x => !(x.f0 == id)) ∧ Below w.heap.size w w' := by
 have HB0 : Below w.heap.size w (w.alloc (.cells #[.int .u64 id] 26)) := (Below.refl _ _).alloc (Nat.le_refl _) _
 have hsz : (w.alloc (.cells #[.int .u64 id] 26)).heap.size = w.heap.size + 1 := Array.size_push _
 have hcell : (w.alloc (.cells #[.int .u64 id] 26)).cell? ⟨w.heap.size, 0, none⟩ = some (.int .u64 id) := World.cell?_alloc_at _ _ w.heap.size 0 rfl
 have CC := VClone.clone_any A c l (w.alloc (.cells #[.int .u64 id] 26)) (Kd.C_alloc hr _) hl
 have HX := Aside0.mk (And.intro HB0 (And.intro hsz hcell))
 clear HB0 hsz hcell hr hl
 go_enter Tryz.func143, Tryz.ntmps143
 go_wp2_with fail
 refine CC.mono ?_
 rintro e w1 ⟨v0, rfl, hR, hb⟩
 obtain ⟨hB0, hsz, hcell⟩ := HX.out
 have hcell1 := (hb.cell (World.block_lt_of_cell? _ _ hcell)).trans hcell
 have D := delete_any 181 w.heap.size (.int .u64 id) (fun x => x.f0 == id) (asks_id _ id) (fun _ _ => rfl) (w.heap.size + 1) l w1 v0 (Kd.R_lower hR (by omega)) hcell1 (by omega) (by have := hb.size; omega)
 have HB1 := Aside0.mk (And.intro (below_step hB0 hb) hB0)
 clear hR hb hB0 hsz hcell hcell1 CC HX
 go_wp2_with fail
 refine D.mono ?_
 rintro e w2 ⟨v', rfl, hR, hb⟩
 have HE := Aside0.mk (And.intro (Kd.R_lower (base' := w.heap.size) hR (by omega)) (HB1.out.1.trans ⟨hb.os, hb.tape, hb.output, hb.size, fun k hk => hb.block k (by omega)⟩))
 clear hR hb D HB1
 go_wp2
 go_ret
 exact ⟨_, rfl, HE.out.1, HE.out.2⟩
end Go.Proofs.YtpccbmechgkogaaGreatDoor.VWithout
