/-
  Lemmas: VDel, VApp, VCopy, VFill, VZeros.
-/
import Derived.Lib.SliceRun
import Derived.Maps.AppendAt
import Derived.KernelRfl
import Derived.Test.YtpccbmechgkogaaGreatDoorProg
import Derived.LoopTactic
import Derived.Outline
import Derived.Test.YtpccbmechgkogaaGreatDoorV0
import Derived.Test.YtpccbmechgkogaaGreatDoorZ00
import Derived.Test.YtpccbmechgkogaaGreatDoorZ07
import Derived.Test.YtpccbmechgkogaaGreatDoorZ08
set_option linter.unusedVariables false
set_option linter.unusedSimpArgs false
namespace Go.Proofs.YtpccbmechgkogaaGreatDoor.VDel
open Go.RowKit Go.Proofs.YtpccbmechgkogaaGreatDoor.P Go.Proofs.YtpccbmechgkogaaGreatDoorW.PrintWords Go.Proofs.YtpccbmechgkogaaGreatDoor.IdxV Go.Proofs.YtpccbmechgkogaaGreatDoor.VerV
def Asks (g b : Nat) (u : Value) (p : S63 → Bool) : Prop :=
 ∀ (W : World) (x : S63), W.cell? ⟨b, 0, none⟩ = some u → Calls Tryz.prog g #[ver x, .pointer (some ⟨b, 0, none⟩)] W fun e w' => e = .returned (.bool (p x)) ∧ Below W.heap.size W w'
theorem tells_of {g b : Nat} {u : Value} {p : S63 → Bool} (h : Asks g b u p) {w : World} (hb : w.cell? ⟨b, 0, none⟩ = some u) (l : List S63) : Tells g #[.pointer (some ⟨b, 0, none⟩)] p w l :=
 fun W x _ hB => h W x ((hB.cell (World.block_lt_of_cell? _ _ hb)).trans hb)
structure Half (p : S63 → Bool) (l ys : List S63) (i j : Nat) : Prop where
 len : ys.length = l.length
 le : i ≤ j
 got : ys.take i = (l.take j).filter fun x => !p x
 left : ∀ k, j ≤ k → ys[k]? = l[k]?
theorem Half.skip {p : S63 → Bool} {l ys : List S63} {i j : Nat} (h : Half p l ys i j) (hj : j < l.length) (hp : p l[j] = true) : Half p l ys i (j + 1) where
 len := h.len
 le := by have := h.le; omega
 got := by
  rw [List.take_succ_eq_append_getElem hj, List.filter_append, ← h.got]
  simp [hp]
 left := fun k hk => h.left k (by omega)
theorem Half.keep {p : S63 → Bool} {l ys : List S63} {i j : Nat} (h : Half p l ys i j) (hij : i < j) (hj : j < l.length) (hp : p l[j] = false) : Half p l (ys.set i l[j]) (i + 1) (j + 1) where
 len := by rw [List.length_set]; exact h.len
 le := by omega
 got := by
  have hi : i < ys.length := by have := h.len; omega
  rw [List.take_succ_eq_append_getElem hj, List.filter_append, ← h.got]
  rw [List.take_succ_eq_append_getElem (by rw [List.length_set]; exact hi), List.take_set_of_le (Nat.le_refl _)]
  simp [hp]
 left := fun k hk => by
  rw [List.getElem?_set_ne (by omega)]
  exact h.left k (by omega)
theorem Half.start {p : S63 → Bool} {l : List S63} {i : Nat} (hi : i < l.length) (hp : p l[i] = true) (hn : ∀ j (h : j < l.length), j < i → p l[j] = false) : Half p l l i (i + 1) where
 len := rfl
 le := by omega
 got := by
  rw [List.take_succ_eq_append_getElem hi, List.filter_append]
  have : (l.take i).filter (fun x => !p x) = l.take i := by
   rw [List.filter_eq_self]
   intro x hx
   obtain ⟨j, hj, rfl⟩ := List.getElem_of_mem hx
   rw [List.length_take] at hj
   rw [List.getElem_take, hn j (by omega) (by omega)]
   rfl
  rw [this]
  simp [hp]
 left := fun k _ => rfl
def z4 : Array Value := #[.int .u64 0, .string ⟨#[]⟩, .bool false, .int .i64 0]
def zs (m : Nat) : List Value := (Builtin.zeroCells z4 m).toList
theorem zs_zero : zs 0 = [] := by simp [zs, Builtin.zeroCells]
theorem zs_succ (m : Nat) : zs (m + 1) = [.int .u64 0, .string ⟨#[]⟩, .bool false, .int .i64 0] ++ zs m := by
 unfold zs Builtin.zeroCells
 have e4 : z4.size = 4 := rfl
 rw [e4, show (m + 1) * 4 = 4 + m * 4 by omega]
 simp only [Array.toList_map, Array.toList_range, List.range_add, List.map_append, List.map_map]
 congr 1
 apply List.map_congr_left
 intro i _
 simp only [Function.comp]
 rw [show (4 + i) % 4 = i % 4 by omega]
theorem zs_len (m : Nat) : (zs m).length = m * 4 := by
 simp [zs, Builtin.zeroCells, z4]
theorem zs_one (m : Nat) : ∀ v ∈ zs m, v.oneCell' = true := by
 induction m with
 | zero => rw [zs_zero]; simp
 | succ m ih =>
  rw [zs_succ]
  intro v hv
  rcases List.mem_append.1 hv with q | q
  ·simp only [List.mem_cons, List.not_mem_nil, or_false] at q
   rcases q with rfl | rfl | rfl | rfl <;> rfl
  ·exact ih v q
theorem run_clear_rows {P : Program} (w : World) (t e ty : TypeId) (ht : P.underlying t = some (.slice e)) (hv : ∀ w, (zeroValue e).run P w = .ok (.agg z4) w) (b o n c : Nat) (hn : 0 < n)
  (hc : ∀ j, j < n * 4 → (w.cell? ⟨b, o + j, none⟩).isSome = true) (hf : ∀ j, j < n * 4 → w.frozen? ⟨b, o + j, none⟩ = false) :
  (Builtin.clear_ #[t] ty #[.slice (some ⟨b, o, none⟩) n c]).run P w = .ok (.tuple #[]) (w.setCells b o (zs n)) := by
 have hst := run_storeCells_cells (P := P) b o (zs n) 0 w (by rw [zs_len]; exact hc) (by rw [zs_len]; exact hf) (zs_one n)
 simp only [Nat.add_zero] at hst
 have hzc : (Builtin.zeroCells (Value.agg z4).cells n).toList = zs n := rfl
 obtain ⟨m, rfl⟩ : ∃ m, n = m + 1 := ⟨n - 1, by omega⟩
 simp [Builtin.clear_, run_underlying ht, hv, hzc, hst]
theorem zero_ver (W : World) : (zeroValue 63).run Tryz.prog W = .ok (.agg z4) W := by kernel_rfl
theorem cleared {gb n cap base : Nat} {ok : Nat → Prop} : ∀ (m i : Nat) (ys : List S63) (w : World), Kd.R k63 63 w base ok (.slice (some ⟨gb, 0, none⟩) n cap) ys → i + m = n →
  ∃ ys' : List S63, Kd.R k63 63 (w.setCells gb (i * 4) (zs m)) base ok (.slice (some ⟨gb, 0, none⟩) n cap) ys' ∧ ys'.take i = ys.take i ∧ ys'.length = ys.length ∧ w.grownBy (w.setCells gb (i * 4) (zs m)) (some gb)
 | 0, i, ys, w, h, hi => ⟨ys, by rw [zs_zero]; exact h, rfl, rfl, by rw [zs_zero]; exact ⟨rfl, rfl, rfl, Nat.le_refl _, fun _ _ _ => rfl⟩⟩
 | m + 1, i, ys, w, h, hi => by
  obtain ⟨hl, _, _⟩ := Kd.R_reads' h
  obtain ⟨c, hcl, hM, hcc, hfr⟩ := Kd.R_elem h z63 (i : Int) (by omega) (by omega)
  have hs := Kd.R_seg (d := k63) h (i : Int) (by omega) (by omega) (c := c) (seg := [.int .u64 0, .string ⟨#[]⟩, .bool false, .int .i64 0]) (j := 0) hcl hcc (Nat.le_refl 4) (x' := z63) (okp := fun _ => False) (by
   have hd : c.drop 4 = [] := List.drop_of_length_le (by rw [hcl]; exact Nat.le_refl 4)
   show k63.M w base _ z63 (c.take 0 ++ [.int .u64 0, .string ⟨#[]⟩, .bool false, .int .i64 0] ++ c.drop 4)
   rw [hd]
   exact k63_mkM _ _ _ z63) (fun _ h => h.elim)
  obtain ⟨ys', h1, h2, h3, h4⟩ := cleared m (i + 1) (ys.set i z63) _ hs.1 (by omega)
  have e : (w.setCells gb (i * 4) [.int .u64 0, .string ⟨#[]⟩, .bool false, .int .i64 0]).setCells gb ((i + 1) * 4) (zs m) = w.setCells gb (i * 4) (zs (m + 1)) := by
   rw [zs_succ, Nat.succ_mul]
   rfl
  have h1' : Kd.R k63 63 ((w.setCells gb (i * 4) [.int .u64 0, .string ⟨#[]⟩, .bool false, .int .i64 0]).setCells gb ((i + 1) * 4) (zs m)) base ok (.slice (some ⟨gb, 0, none⟩) n cap) ys' := h1
  have h4' : (w.setCells gb (i * 4) [.int .u64 0, .string ⟨#[]⟩, .bool false, .int .i64 0]).grownBy ((w.setCells gb (i * 4) [.int .u64 0, .string ⟨#[]⟩, .bool false, .int .i64 0]).setCells gb ((i + 1) * 4) (zs m)) (some gb) := h4
  rw [e] at h1' h4'
  refine ⟨ys', h1', ?_, by rw [h3, List.length_set], World.grownBy.trans hs.2 h4'⟩
  have := congrArg (List.take i) h2
  rw [List.take_take, List.take_take, Nat.min_eq_left (by omega), List.take_set_of_le (Nat.le_refl _)] at this
  exact this
set_option maxRecDepth 100000 in
set_option maxHeartbeats 3200000 in
theorem delete_none (g b : Nat) (u : Value) (p : S63 → Bool) (ha : Asks g b u p) (eg : ∀ args w, (callFunc g args).run Tryz.prog w = .ok (.enter g args) w) (A : Option Addr) (c : Nat) (l : List S63) (w : World)
  (hr : Kd.C k63 w A l.length l) (hbox : w.cell? ⟨b, 0, none⟩ = some u) (hn : ∀ j (h : j < l.length), p l[j] = false) :
  Calls Tryz.prog 180 #[.slice A l.length c, .func (.func g) #[] #[.pointer (some ⟨b, 0, none⟩)]] w fun e w' => e = .returned (.slice A l.length c) ∧ Below w.heap.size w w' := by
 have C := VerV.index_any g _ eg p A c l w hr (tells_of ha hbox l)
 rw [idx_miss p l hn] at C
 clear ha hr hbox hn eg
 go_enter Tryz.func180, Tryz.ntmps180
 go_wp2_with fail
 refine C.mono ?_
 rintro e w1 ⟨rfl, hb⟩
 have HB := Aside0.mk hb
 clear hb C
 go_wp2
 go_ret
 exact ⟨rfl, HB.out⟩
set_option maxRecDepth 100000 in
set_option maxHeartbeats 6400000 in
theorem delete_some (g b : Nat) (u : Value) (p : S63 → Bool) (ha : Asks g b u p) (eg : ∀ args w, (callFunc g args).run Tryz.prog w = .ok (.enter g args) w) (gb cap base : Nat) (ok : Nat → Prop) (l : List S63) (w : World)
  (hr : Kd.R k63 63 w base ok (.slice (some ⟨gb, 0, none⟩) l.length cap) l) (hbox : w.cell? ⟨b, 0, none⟩ = some u) (hne : b ≠ gb) (i0 : Nat) (hi0 : i0 < l.length) (hp0 : p l[i0] = true) (hn : ∀ j (h : j < l.length), j < i0 → p l[j] = false) :
  Calls Tryz.prog 180 #[.slice (some ⟨gb, 0, none⟩) l.length cap, .func (.func g) #[] #[.pointer (some ⟨b, 0, none⟩)]] w fun e w' =>
   e = .returned (.slice (some ⟨gb, 0, none⟩) (l.filter fun x => !p x).length cap) ∧ Kd.R k63 63 w' base ok (.slice (some ⟨gb, 0, none⟩) (l.filter fun x => !p x).length cap) (l.filter fun x => !p x) ∧ w.grownBy w' (some gb) := by
 obtain ⟨hn', hnc, hC⟩ := Kd.R_reads' hr
 have hm : l.length ≤ 9223372036854775807 := hC.2.1
 have C := VerV.index_any g _ eg p _ cap l w hC (tells_of ha hbox l)
 rw [idx_hit p l i0 hi0 hp0 hn] at C
 have HS := Half.start hi0 hp0 hn
 have HR := Aside0.mk hr
 have HBX := Aside0.mk hbox
 have HA := Aside0.mk ha
 clear ha hr hbox hn hC hn' hp0
 have hu := Tryz.underlying63
 have hub := Tryz.underlying97
 go_enter Tryz.func180, Tryz.ntmps180
 go_wp2_with fail
 refine C.mono ?_
 rintro e w1 ⟨rfl, hb⟩
 have HB := Aside0.mk hb
 clear hb C
 go_wp2
 go_loopw [5, 6] (fun i j wr => ∃ (ni nj : Nat) (ys : List S63), i = .int .i64 ni ∧ j = .int .i64 nj ∧ ni < nj ∧ nj ≤ l.length ∧ Aside0 (Half p l ys ni nj) ∧ Aside0 (Kd.R k63 63 wr base ok (.slice (some ⟨gb, 0, none⟩) l.length cap) ys) ∧ Aside0 (wr.cell? ⟨b, 0, none⟩ = some u) ∧ Aside0 (w.grownBy wr (some gb))) (fun _ j _ => l.length - (intOf j).toNat)
 case atStart => exact ⟨i0, i0 + 1, l, rfl, by go_num, by omega, by omega, ⟨HS⟩, ⟨Kd.R_below HR.out HB.out⟩, ⟨(HB.out.cell (World.block_lt_of_cell? _ _ HBX.out)).trans HBX.out⟩, ⟨⟨HB.out.os, HB.out.tape, HB.out.output, HB.out.size, fun i hi _ => HB.out.block i hi⟩⟩⟩
 case round =>
  clear HR HBX HB HS
  obtain ⟨ni, nj, ys, rfl, rfl, hij, hjl, HS, HR, HBX, HG⟩ := hrel
  by_cases hlt : nj < l.length
  ·have hyl : nj < ys.length := by have := HS.out.len; omega
   obtain ⟨cq, hcq, hMq, hcc, hfr⟩ := Kd.R_elem HR.out z63 (nj : Int) (by omega) (by omega)
   have hx : ys.getD (nj : Int).toNat z63 = l[nj] := by
    have := HS.out.left nj (Nat.le_refl _)
    rw [Int.toNat_natCast, List.getD_eq_getElem?_getD, this, List.getElem?_eq_getElem hlt]
    rfl
   rw [hx] at hMq
   generalize hv : l[nj] = x at hMq
   have HV := Aside0.mk hv
   clear hv hx
   obtain rfl := k63_openM hMq
   have h0 : wr.cell? ⟨gb, nj * 4, none⟩ = some (.int .u64 x.f0) := hcc 0 _ rfl
   have h1 : wr.cell? ⟨gb, nj * 4 + 1, none⟩ = some (.string x.f1) := hcc 1 _ rfl
   have h2 : wr.cell? ⟨gb, nj * 4 + 2, none⟩ = some (.bool x.f2) := hcc 2 _ rfl
   have h3 : wr.cell? ⟨gb, nj * 4 + 3, none⟩ = some (.int .i64 x.f3) := hcc 3 _ rfl
   clear hcq hMq hcc hfr
   have HW : Below wr.heap.size wr (wr.alloc (.cells #[.int .u64 x.f0, .string x.f1, .bool x.f2, .int .i64 x.f3] 63)) := (Below.refl _ _).alloc (Nat.le_refl _) _
   have hcall := HA.out (wr.alloc (.cells #[.int .u64 x.f0, .string x.f1, .bool x.f2, .int .i64 x.f3] 63)) x ((HW.cell (World.block_lt_of_cell? _ _ HBX.out)).trans HBX.out)
   have BK0 : (wr.alloc (.cells #[.int .u64 x.f0, .string x.f1, .bool x.f2, .int .i64 x.f3] 63)).heap[wr.heap.size]? = some (.cells #[.int .u64 x.f0, .string x.f1, .bool x.f2, .int .i64 x.f3] 63 (0, 0)) := Array.getElem?_push_size
   have HBK := Aside0.mk BK0
   have HWA := Aside0.mk HW
   clear HW BK0
   generalize hq : p x = q at hcall
   have HQ := Aside0.mk hq
   clear hq
   cases q with
   | true =>
    go_wp2_with fail
    refine hcall.mono ?_
    rintro e w2 ⟨rfl, hb2⟩
    have HB2 := Aside0.mk (below_step HWA.out hb2)
    clear hb2 hcall h0 h1 h2 h3
    go_wp2
    refine ⟨⟨_, _, _, _, _, _, _, _, _, _, _, _, _, _, _, _, _, _, _, _, _, _, _, ?rel, rfl⟩, ?measure⟩
    case measure => simp [intOf]; omega
    case rel => exact ⟨ni, nj + 1, ys, rfl, by go_num, by omega, by omega, ⟨HS.out.skip hlt (by rw [HV.out]; exact HQ.out)⟩, ⟨Kd.R_below HR.out HB2.out⟩, ⟨(HB2.out.cell (World.block_lt_of_cell? _ _ HBX.out)).trans HBX.out⟩, ⟨HG.out.trans ⟨HB2.out.os, HB2.out.tape, HB2.out.output, HB2.out.size, fun i hi _ => HB2.out.block i hi⟩⟩⟩
   | false =>
    go_wp2_with fail
    refine hcall.mono ?_
    rintro e w2 ⟨rfl, hb2⟩
    have BK2 := blk_below HBK.out hb2
    have HB2 := Aside0.mk (below_step HWA.out hb2)
    clear hb2 hcall h0 h1 h2 h3
    have g0 : w2.cell? ⟨wr.heap.size, 0, none⟩ = some (.int .u64 x.f0) := (blk_cell BK2 0).trans rfl
    have g1 : w2.cell? ⟨wr.heap.size, 1, none⟩ = some (.string x.f1) := (blk_cell BK2 1).trans rfl
    have g2 : w2.cell? ⟨wr.heap.size, 2, none⟩ = some (.bool x.f2) := (blk_cell BK2 2).trans rfl
    have g3 : w2.cell? ⟨wr.heap.size, 3, none⟩ = some (.int .i64 x.f3) := (blk_cell BK2 3).trans rfl
    clear BK2
    have HR2 := Aside0.mk (Kd.R_below HR.out HB2.out)
    have hyi : ni < ys.length := by omega
    obtain ⟨cq, hcq, hMq, hcc, hfr⟩ := Kd.R_elem HR2.out z63 (ni : Int) (by omega) (by omega)
    generalize hv : ys.getD (ni : Int).toNat z63 = y at hMq
    clear hv
    obtain rfl := k63_openM hMq
    have h0 : w2.cell? ⟨gb, ni * 4, none⟩ = some (.int .u64 y.f0) := hcc 0 _ rfl
    have h1 : w2.cell? ⟨gb, ni * 4 + 1, none⟩ = some (.string y.f1) := hcc 1 _ rfl
    have h2 : w2.cell? ⟨gb, ni * 4 + 2, none⟩ = some (.bool y.f2) := hcc 2 _ rfl
    have h3 : w2.cell? ⟨gb, ni * 4 + 3, none⟩ = some (.int .i64 y.f3) := hcc 3 _ rfl
    have f0 : w2.frozen? ⟨gb, ni * 4, none⟩ = false := hfr 0
    have f1 : w2.frozen? ⟨gb, ni * 4 + 1, none⟩ = false := hfr 1
    have f2 : w2.frozen? ⟨gb, ni * 4 + 2, none⟩ = false := hfr 2
    have f3 : w2.frozen? ⟨gb, ni * 4 + 3, none⟩ = false := hfr 3
    have HC := Aside0.mk hcc
    clear hcc hfr hcq hMq
    go_wp2
    refine ⟨⟨_, _, _, _, _, _, _, _, _, _, _, _, _, _, _, _, _, _, _, _, _, _, _, ?rel, rfl⟩, ?measure⟩
    case measure => simp [intOf]; omega
    case rel =>
     have hseg := Kd.R_seg (d := k63) HR2.out (ni : Int) (by omega) (by omega) (c := [.int .u64 y.f0, .string y.f1, .bool y.f2, .int .i64 y.f3]) (seg := [.int .u64 x.f0, .string x.f1, .bool x.f2, .int .i64 x.f3]) (j := 0) rfl HC.out (Nat.le_refl 4) (x' := x) (okp := fun _ => False) (k63_mkM _ _ _ x) (fun _ h => h.elim)
     have hG2 : wr.grownBy w2 (some gb) := ⟨HB2.out.os, HB2.out.tape, HB2.out.output, HB2.out.size, fun i hi _ => HB2.out.block i hi⟩
     refine ⟨ni + 1, nj + 1, ys.set ni x, by go_num, by go_num, by omega, by omega, ⟨?_⟩, ⟨hseg.1⟩, ⟨?_⟩, ⟨(HG.out.trans hG2).trans hseg.2⟩⟩
     ·have := HS.out.keep hij hlt (by rw [HV.out]; exact HQ.out)
      rw [HV.out] at this
      exact this
     ·have hb := HBX.out
      have h2 := (HB2.out.cell (World.block_lt_of_cell? _ _ hb)).trans hb
      exact (hseg.2.cell_far ⟨b, 0, none⟩ (World.block_lt_of_cell? _ _ h2) (fun e => hne (Option.some.inj e))).trans h2
  ·obtain rfl : nj = l.length := by omega
   obtain ⟨hl', _, _⟩ := Kd.R_reads' HR.out
   have hat : ∀ j, j < (l.length - ni) * 4 → (∃ v, wr.cell? ⟨gb, ni * 4 + j, none⟩ = some v) ∧ wr.frozen? ⟨gb, ni * 4 + j, none⟩ = false := fun j hj => by
    obtain ⟨c, hcl, _, hcc, hfr⟩ := Kd.R_elem HR.out z63 ((ni + j / 4 : Nat) : Int) (by omega) (by omega)
    have e : ni * 4 + j = (((ni + j / 4 : Nat) : Int)).toNat * 4 + j % 4 := by rw [Int.toNat_natCast]; omega
    have h4 : j % 4 < c.length := by rw [hcl]; exact Nat.mod_lt _ (by decide)
    rw [e]
    exact ⟨⟨_, hcc (j % 4) _ (List.getElem?_eq_getElem h4)⟩, hfr (j % 4)⟩
   have hclr := run_clear_rows (P := Tryz.prog) wr 97 63 0 hub zero_ver gb (ni * 4) (l.length - ni) (cap - ni) (by omega) (fun j hj => by obtain ⟨⟨v, hv⟩, _⟩ := hat j hj; rw [hv]; rfl) (fun j hj => (hat j hj).2)
   obtain ⟨ys', c1, c2, c3, c4⟩ := cleared (l.length - ni) ni ys wr HR.out (by omega)
   have hfil : ys'.take ni = l.filter fun x => !p x := by
    rw [c2, HS.out.got, List.take_length]
   have hlen : (l.filter fun x => !p x).length = ni := by
    rw [← hfil, List.length_take]
    omega
   have HR3 := Kd.R_take c1 (m := ni) (by omega)
   rw [hfil] at HR3
   have HE := Aside0.mk (And.intro HR3 c4)
   have HLN := Aside0.mk hlen
   clear hat c1 c2 c3 c4 hfil HR3 hl' hlen
   go_wp2
   go_ret
   have hlen := HLN.out
   rw [hlen]
   exact ⟨rfl, HE.out.1, HG.out.trans HE.out.2⟩
end Go.Proofs.YtpccbmechgkogaaGreatDoor.VDel
namespace Go.Proofs.YtpccbmechgkogaaGreatDoor.VApp
open Go.RowKit Go.Proofs.YtpccbmechgkogaaGreatDoor.P Go.Proofs.YtpccbmechgkogaaGreatDoorW.PrintWords
theorem append_run {P : Program} (w : World) (t u e e' ty : TypeId) (ht : P.underlying t = some (.slice e)) (hu : P.underlying u = some (.slice e')) (v : Value) (A : Option Addr) (m c : Nat) :
  (Builtin.append_ #[t, u] ty #[v, .slice A m c]).run P w = (Builtin.append_ #[t, t] ty #[v, .slice A m c]).run P w := by
 cases v with
 | slice a n k =>
  cases hq : P.info? e <;> simp [Builtin.append_, run_underlying ht, run_underlying hu, sizeOf, typeInfo, hq]
 | _ => simp [Builtin.append_, run_underlying ht]
set_option maxHeartbeats 1600000 in
theorem rows_run (base : Nat) (W : World) (ty : TypeId) (v : Value) (xs ys : List S63) (A : Option Addr) (m c : Nat)
  (HO : Kd.R k63 63 W base (fun _ => True) v xs) (HR : Kd.C k63 W A m ys) (hbase : base ≤ W.heap.size) (hl : (xs.length + m) * 40 ≤ 140737488355328) :
  ∃ v1 w1, (Builtin.append_ #[97, 97] ty #[v, .slice A m c]).run Tryz.prog W = .ok v1 w1 ∧ Kd.R k63 63 w1 base (fun _ => True) v1 (xs ++ ys) ∧ Below base W w1 := by
 have h := Kd.R_append_rows (P := Tryz.prog) (ops := #[]) (rest := []) (a := ⟨#[v, .slice A m c], []⟩)
  (o := { dst := some 0, op := .call { callee := .builtin .append, args := #[.tmp 0, .tmp 1], argTypes := #[97, 97] }, type := ty, pos := "", after := #[], guard := none })
  (Q := fun e a' w' => e = .normal ∧ ∃ v1, a' = (⟨#[v1, .slice A m c], []⟩ : Act) ∧ Kd.R k63 63 w' base (fun _ => True) v1 (xs ++ ys) ∧ Below base W w')
  k63 (w0 := W) (W := W) base rfl (.tmp 0) (.tmp 1) 97 63 (.agg #[(.int .u64 0), (.string ⟨#[]⟩), (.bool false), (.int .i64 0)]) 40 rfl Tryz.underlying97 info63 rfl (by decide) (by omega)
  v xs ys A m c (fun _ => True) (fun _ => False) rfl rfl HO HR (fun x cs hK => by obtain rfl := k63_open hK; exact k63_mkM _ _ _ x) (fun _ h => h.elim) (fun _ _ => trivial) (Below.refl _ _) hbase hl
  (fun v1 w1 h1 h2 _ _ => ⟨rfl, v1, rfl, h1, h2⟩)
 rw [wpList] at h
 simp only [Region.wanted, if_true] at h
 rcases h with h | ⟨_, h⟩
 ·unfold Oper.wp execOp at h
  simp only [resolve, invoke, builtin, Sem.run_bind, Sem.run_pure, Result.andThen_ok, List.map_toArray, List.map_cons, List.map_nil] at h
  rw [show (#[Act.eval ⟨#[v, .slice A m c], []⟩ (.tmp 0), Act.eval ⟨#[v, .slice A m c], []⟩ (.tmp 1)] : Array Value) = #[v, .slice A m c] from rfl] at h
  cases hq : (Builtin.append_ #[97, 97] ty #[v, .slice A m c]).run Tryz.prog W with
  | ok v1 w1 =>
   rw [hq, Result.andThen_ok, Oper.upon_value] at h
   obtain ⟨_, v1', hv, h1, h2⟩ := h
   have : v1 = v1' := by
    have h3 := congrArg (fun a : Act => a.tmps[0]?) hv
    simpa [Act.put] using h3
   subst this
   exact ⟨_, _, rfl, h1, h2⟩
  | halt hh w1 =>
   rw [hq] at h
   cases hh <;> simp [Oper.upon, Result.andThen] at h
 ·obtain ⟨_, _, he, _⟩ := h
  cases he
theorem wpList_append_run {P : Program} {W : World} {ops : Array Oper} {rest : List Oper} {o : Oper} {a : Act} {Q : Exit → Act → World → Prop} (hgd : o.guard = none) (s x : Operand) (t t' : TypeId)
  (ho : o.op = .call { callee := .builtin .append, args := #[s, x], argTypes := #[t, t'] }) {v u : Value} (hs : a.eval s = v) (hx : a.eval x = u) {v' : Value} {w' : World}
  (hr : (Builtin.append_ #[t, t'] o.type #[v, u]).run P W = .ok v' w') (h : wpList P ops Q rest (a.put o.dst v') w') : wpList P ops Q (o :: rest) a W :=
 wpList_plain hgd fun K hK => by
  unfold Oper.wp execOp
  simp only [ho, resolve, invoke, builtin, Sem.run_bind, Sem.run_pure, Result.andThen_ok, List.map_toArray, List.map_cons, List.map_nil, hs, hx, hr]
  exact hK _ _ h
end Go.Proofs.YtpccbmechgkogaaGreatDoor.VApp
namespace Go.Proofs.YtpccbmechgkogaaGreatDoor.VCopy
open Go.RowKit Go.Proofs.YtpccbmechgkogaaGreatDoorW.PrintWords
theorem run_copy_rows {P : Program} (w : World) (dT sT ty elem : TypeId) (q : Nat) (b o dLen dCap : Nat) (a : Addr) (sLen sCap n : Nat) (cs : List Value)
  (hu : P.underlying dT = some (.slice elem)) (hs : (P.info? elem).map (·.size) = some q) (hn : n = Nat.min sLen dLen) (hl : cs.length = n * q)
  (hsrc : ∀ j v, cs[j]? = some v → w.cell? (a.add j) = some v) (hc : ∀ j, j < cs.length → (w.cell? ⟨b, o + j, none⟩).isSome = true) (hf : ∀ j, j < cs.length → w.frozen? ⟨b, o + j, none⟩ = false) (h1 : ∀ v ∈ cs, v.oneCell' = true) :
  (Builtin.copy_ #[dT, sT] ty #[.slice (some ⟨b, o, none⟩) dLen dCap, .slice (some a) sLen sCap]).run P w = .ok (goInt n) (w.setCells b o cs) := by
 have hld := run_loadCells_list (P := P) w a cs hsrc
 have hst := run_storeCells_cells (P := P) b o cs 0 w (by simpa using hc) (by simpa using hf) h1
 cases hq : P.info? elem with
 | none => simp [hq] at hs
 | some i =>
  have hi : i.size = q := by simpa [hq] using hs
  rw [hl] at hld
  simp [Builtin.copy_, run_underlying hu, Builtin.lenOf, Builtin.firstCells, sizeOf, typeInfo, hq, hi, ← hn, hld, hst]
end Go.Proofs.YtpccbmechgkogaaGreatDoor.VCopy
namespace Go.Proofs.YtpccbmechgkogaaGreatDoor.VFill
open Go.RowKit Go.Proofs.YtpccbmechgkogaaGreatDoor.P Go.Proofs.YtpccbmechgkogaaGreatDoorW.PrintWords
def cs (x : S63) : List Value := [.int .u64 x.f0, .string x.f1, .bool x.f2, .int .i64 x.f3]
theorem copied {gb n cap base : Nat} {ok : Nat → Prop} : ∀ (us : List S63) (i : Nat) (ys : List S63) (w : World), Kd.R k63 63 w base ok (.slice (some ⟨gb, 0, none⟩) n cap) ys → i + us.length ≤ n →
  Kd.R k63 63 (w.setCells gb (i * 4) (us.flatMap cs)) base ok (.slice (some ⟨gb, 0, none⟩) n cap) (ys.take i ++ us ++ ys.drop (i + us.length)) ∧ w.grownBy (w.setCells gb (i * 4) (us.flatMap cs)) (some gb)
 | [], i, ys, w, h, hi => by
  rw [List.append_nil, List.length_nil, Nat.add_zero, List.take_append_drop]
  exact ⟨h, ⟨rfl, rfl, rfl, Nat.le_refl _, fun _ _ _ => rfl⟩⟩
 | x :: us, i, ys, w, h, hi => by
  rw [List.length_cons] at hi
  obtain ⟨hl, _, _⟩ := Kd.R_reads' h
  obtain ⟨c, hcl, hM, hcc, hfr⟩ := Kd.R_elem h z63 (i : Int) (by omega) (by omega)
  have hs := Kd.R_seg (d := k63) h (i : Int) (by omega) (by omega) (c := c) (seg := cs x) (j := 0) hcl hcc (Nat.le_refl 4) (x' := x) (okp := fun _ => False) (by
   have hd : c.drop 4 = [] := List.drop_of_length_le (by rw [hcl]; exact Nat.le_refl 4)
   show k63.M w base _ x (c.take 0 ++ cs x ++ c.drop 4)
   rw [hd]
   exact k63_mkM _ _ _ x) (fun _ h => h.elim)
  have hs1 : Kd.R k63 63 (w.setCells gb (i * 4) (cs x)) base ok (.slice (some ⟨gb, 0, none⟩) n cap) (ys.set i x) := hs.1
  have hs2 : w.grownBy (w.setCells gb (i * 4) (cs x)) (some gb) := hs.2
  obtain ⟨h1, h2⟩ := copied us (i + 1) (ys.set i x) _ hs1 (by omega)
  have e : (w.setCells gb (i * 4) (cs x)).setCells gb ((i + 1) * 4) (us.flatMap cs) = w.setCells gb (i * 4) ((x :: us).flatMap cs) := by
   rw [List.flatMap_cons, Nat.succ_mul]
   rfl
  rw [e] at h1 h2
  have hi' : i < (ys.set i x).length := by rw [List.length_set]; omega
  have ey : (ys.set i x).take (i + 1) ++ us ++ (ys.set i x).drop (i + 1 + us.length) = ys.take i ++ (x :: us) ++ ys.drop (i + (x :: us).length) := by
   rw [List.take_succ_eq_append_getElem hi', List.take_set_of_le (Nat.le_refl _), List.drop_set_of_lt (by omega), List.length_cons]
   simp [show i + 1 + us.length = i + (us.length + 1) by omega]
  rw [ey] at h1
  exact ⟨h1, hs2.trans h2⟩
end Go.Proofs.YtpccbmechgkogaaGreatDoor.VFill
namespace Go.Proofs.YtpccbmechgkogaaGreatDoor.VZeros
open Go.RowKit Go.Proofs.YtpccbmechgkogaaGreatDoorW.PrintWords Go.Proofs.YtpccbmechgkogaaGreatDoorW.PrintLast Go.Proofs.YtpccbmechgkogaaGreatDoorW.PrintMore
theorem run_zeros_grow {P : Program} (w : World) (t ti ty e : TypeId) (i : TypeInfo) (z : Value) (ht : P.underlying t = some (.slice e)) {k : IntKind} (hti : P.underlying ti = some (.int k)) (hi : P.info? e = some i) (hz : i.zero = some z)
  (hsn : i.size ≠ 0) (kx : IntKind) (A : Option Addr) (cap m : Nat) (hcap : cap < m) (hbytes : m * i.bytes ≤ 140737488355328) (hb0 : 0 < i.bytes) :
  (Builtin.append_ #[t, ti] ty #[.slice A 0 cap, .int kx m]).run P w =
   .ok (.slice (some ⟨w.heap.size, 0, none⟩) m (grownCap w m cap e)) (w.drew.alloc (.cells (Builtin.zeroCells z.cells m ++ Builtin.zeroCells z.cells (grownCap w m cap e - m)) e)) := by
 have hle : m ≤ 140737488355328 := Nat.le_trans (Nat.le_mul_of_pos_right _ hb0) hbytes
 have hw : IntKind.i64.wrap (m : Int) = m := by rw [IntKind.wrap_i64]; omega
 have hneg : ¬ ((m : Int) < 0) := by omega
 have hbig : ¬ (281474976710656 < (m : Int) * (i.bytes : Int)) := by
  rw [← Int.natCast_mul]
  omega
 have hn : ¬ (m ≤ cap) := by omega
 have h63' : ¬ (9223372036854775807 < (m : Int)) := by omega
 have hfit := growslice_fits hcap hbytes
 have h48' : ¬ (281474976710656 < Builtin.nextslicecap m cap * i.bytes) := by omega
 have hm : m ≠ 0 := by omega
 have hfo : (Builtin.firstCells i.size 0 (.slice A 0 cap)).run P w.drew = .ok #[] w.drew := by
  cases A with
  | none => rfl
  | some a => exact run_firstCells_some (P := P) w.drew i.size 0 a 0 cap [] (by simp) (by simp)
 simp [Builtin.append_, run_underlying ht, run_underlying hti, sizeOf, typeInfo, zeroValue, hi, hz, asInt, asIntOf, hw, hneg, hbig, hn, h63', h48', Question.forced, hfo, newRow, grownCap]
 intro h0
 exact absurd h0 (Nat.mul_ne_zero hm hsn)
end Go.Proofs.YtpccbmechgkogaaGreatDoor.VZeros
