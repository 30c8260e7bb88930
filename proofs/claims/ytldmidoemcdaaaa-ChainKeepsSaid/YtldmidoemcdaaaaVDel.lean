/-
  slices.DeleteFunc over chain.versions of the call's own, by a function value that holds what it captured in a box.
-/
import Derived.Test.YtldmidoemcdaaaaVerV
import Derived.Lib.SliceRun
import Derived.Maps.AppendAt
import Derived.KernelRfl
set_option linter.unusedVariables false
namespace Go.Proofs.Ytldmidoemcdaaaa.VDel
open Go.RowKit Go.Proofs.Ytldmidoemcdaaaa.P Go.Proofs.YtldmidoemcdaaaaW.PrintWords Go.Proofs.Ytldmidoemcdaaaa.PureKit Go.Proofs.Ytldmidoemcdaaaa.IdxV Go.Proofs.Ytldmidoemcdaaaa.VerV

/-- A function value that reads the box it captured, and tells of each version. -/
def Asks (g b : Nat) (u : Value) (p : S25 → Bool) : Prop :=
  ∀ (W : World) (x : S25), W.cell? ⟨b, 0, none⟩ = some u → Calls Try.prog g #[ver x, .pointer (some ⟨b, 0, none⟩)] W fun e w' => e = .returned (.bool (p x)) ∧ Below W.heap.size W w'
theorem tells_of {g b : Nat} {u : Value} {p : S25 → Bool} (h : Asks g b u p) {w : World} (hb : w.cell? ⟨b, 0, none⟩ = some u) (l : List S25) : Tells g #[.pointer (some ⟨b, 0, none⟩)] p w l :=
  fun W x _ hB => h W x ((hB.cell (World.block_lt_of_cell? _ _ hb)).trans hb)
/-! ### The loop's row -/
structure Half (p : S25 → Bool) (l ys : List S25) (i j : Nat) : Prop where
  len : ys.length = l.length
  le : i ≤ j
  got : ys.take i = (l.take j).filter fun x => !p x
  left : ∀ k, j ≤ k → ys[k]? = l[k]?
theorem Half.skip {p : S25 → Bool} {l ys : List S25} {i j : Nat} (h : Half p l ys i j) (hj : j < l.length) (hp : p l[j] = true) : Half p l ys i (j + 1) where
  len := h.len
  le := by have := h.le; omega
  got := by
    rw [List.take_succ_eq_append_getElem hj, List.filter_append, ← h.got]
    simp [hp]
  left := fun k hk => h.left k (by omega)
theorem Half.keep {p : S25 → Bool} {l ys : List S25} {i j : Nat} (h : Half p l ys i j) (hij : i < j) (hj : j < l.length) (hp : p l[j] = false) : Half p l (ys.set i l[j]) (i + 1) (j + 1) where
  len := by rw [List.length_set]; exact h.len
  le := by omega
  got := by
    have hi : i < ys.length := by have := h.len; omega
    rw [List.take_succ_eq_append_getElem hj, List.filter_append, ← h.got]
    rw [List.take_succ_eq_append_getElem (by rw [List.length_set]; exact hi), List.take_set_of_le (Nat.le_refl _)]
    simp [hp]
  left := fun k hk => by
    rw [List.getElem?_set_ne (by omega)]
    exact h.left k (by omega)
theorem Half.start {p : S25 → Bool} {l : List S25} {i : Nat} (hi : i < l.length) (hp : p l[i] = true) (hn : ∀ j (h : j < l.length), j < i → p l[j] = false) : Half p l l i (i + 1) where
  len := rfl
  le := by omega
  got := by
    rw [List.take_succ_eq_append_getElem hi, List.filter_append]
    have : (l.take i).filter (fun x => !p x) = l.take i := by
      rw [List.filter_eq_self]
      intro x hx
      obtain ⟨j, hj, rfl⟩ := List.getElem_of_mem hx
      rw [List.length_take] at hj
      rw [List.getElem_take, hn j (by omega) (by omega)]
      rfl
    rw [this]
    simp [hp]
  left := fun k _ => rfl

/-! ### clear -/
/-- A version's zero cells. -/
def z4 : Array Value := #[.int .u64 0, .string ⟨#[]⟩, .bool false, .int .i64 0]
def zs (m : Nat) : List Value := (Builtin.zeroCells z4 m).toList
theorem zs_zero : zs 0 = [] := by simp [zs, Builtin.zeroCells]
theorem zs_succ (m : Nat) : zs (m + 1) = [.int .u64 0, .string ⟨#[]⟩, .bool false, .int .i64 0] ++ zs m := by
  unfold zs Builtin.zeroCells
  have e4 : z4.size = 4 := rfl
  rw [e4, show (m + 1) * 4 = 4 + m * 4 by omega]
  simp only [Array.toList_map, Array.toList_range, List.range_add, List.map_append, List.map_map]
  congr 1
  apply List.map_congr_left
  intro i _
  simp only [Function.comp]
  rw [show (4 + i) % 4 = i % 4 by omega]
theorem zs_len (m : Nat) : (zs m).length = m * 4 := by
  simp [zs, Builtin.zeroCells, z4]
theorem zs_one (m : Nat) : ∀ v ∈ zs m, v.oneCell' = true := by
  induction m with
  | zero => rw [zs_zero]; simp
  | succ m ih =>
    rw [zs_succ]
    intro v hv
    rcases List.mem_append.1 hv with q | q
    · simp only [List.mem_cons, List.not_mem_nil, or_false] at q
      rcases q with rfl | rfl | rfl | rfl <;> rfl
    · exact ih v q
theorem run_clear_rows {P : Program} (w : World) (t e ty : TypeId) (ht : P.underlying t = some (.slice e)) (hv : ∀ w, (zeroValue e).run P w = .ok (.agg z4) w) (b o n c : Nat) (hn : 0 < n)
    (hc : ∀ j, j < n * 4 → (w.cell? ⟨b, o + j, none⟩).isSome = true) (hf : ∀ j, j < n * 4 → w.frozen? ⟨b, o + j, none⟩ = false) :
    (Builtin.clear_ #[t] ty #[.slice (some ⟨b, o, none⟩) n c]).run P w = .ok (.tuple #[]) (w.setCells b o (zs n)) := by
  have hst := run_storeCells_cells (P := P) b o (zs n) 0 w (by rw [zs_len]; exact hc) (by rw [zs_len]; exact hf) (zs_one n)
  simp only [Nat.add_zero] at hst
  have hzc : (Builtin.zeroCells (Value.agg z4).cells n).toList = zs n := rfl
  obtain ⟨m, rfl⟩ : ∃ m, n = m + 1 := ⟨n - 1, by omega⟩
  simp [Builtin.clear_, run_underlying ht, hv, hzc, hst]
theorem zero_ver (W : World) : (zeroValue 25).run Try.prog W = .ok (.agg z4) W := by kernel_rfl
theorem cleared {gb n cap base : Nat} {ok : Nat → Prop} : ∀ (m i : Nat) (ys : List S25) (w : World), Kd.R k25 25 w base ok (.slice (some ⟨gb, 0, none⟩) n cap) ys → i + m = n →
    ∃ ys' : List S25, Kd.R k25 25 (w.setCells gb (i * 4) (zs m)) base ok (.slice (some ⟨gb, 0, none⟩) n cap) ys' ∧ ys'.take i = ys.take i ∧ ys'.length = ys.length ∧ w.grownBy (w.setCells gb (i * 4) (zs m)) (some gb)
  | 0, i, ys, w, h, hi => ⟨ys, by rw [zs_zero]; exact h, rfl, rfl, by rw [zs_zero]; exact ⟨rfl, rfl, rfl, Nat.le_refl _, fun _ _ _ => rfl⟩⟩
  | m + 1, i, ys, w, h, hi => by
    obtain ⟨hl, _, _⟩ := Kd.R_reads' h
    obtain ⟨c, hcl, hM, hcc, hfr⟩ := Kd.R_elem h z25 (i : Int) (by omega) (by omega)
    have hs := Kd.R_seg (d := k25) h (i : Int) (by omega) (by omega) (c := c) (seg := [.int .u64 0, .string ⟨#[]⟩, .bool false, .int .i64 0]) (j := 0) hcl hcc (Nat.le_refl 4) (x' := z25) (okp := fun _ => False) (by
      have hd : c.drop 4 = [] := List.drop_of_length_le (by rw [hcl]; exact Nat.le_refl 4)
      show k25.M w base _ z25 (c.take 0 ++ [.int .u64 0, .string ⟨#[]⟩, .bool false, .int .i64 0] ++ c.drop 4)
      rw [hd]
      exact k25_mkM _ _ _ z25) (fun _ h => h.elim)
    obtain ⟨ys', h1, h2, h3, h4⟩ := cleared m (i + 1) (ys.set i z25) _ hs.1 (by omega)
    have e : (w.setCells gb (i * 4) [.int .u64 0, .string ⟨#[]⟩, .bool false, .int .i64 0]).setCells gb ((i + 1) * 4) (zs m) = w.setCells gb (i * 4) (zs (m + 1)) := by
      rw [zs_succ, Nat.succ_mul]
      rfl
    have h1' : Kd.R k25 25 ((w.setCells gb (i * 4) [.int .u64 0, .string ⟨#[]⟩, .bool false, .int .i64 0]).setCells gb ((i + 1) * 4) (zs m)) base ok (.slice (some ⟨gb, 0, none⟩) n cap) ys' := h1
    have h4' : (w.setCells gb (i * 4) [.int .u64 0, .string ⟨#[]⟩, .bool false, .int .i64 0]).grownBy ((w.setCells gb (i * 4) [.int .u64 0, .string ⟨#[]⟩, .bool false, .int .i64 0]).setCells gb ((i + 1) * 4) (zs m)) (some gb) := h4
    rw [e] at h1' h4'
    refine ⟨ys', h1', ?_, by rw [h3, List.length_set], World.grownBy.trans hs.2 h4'⟩
    have := congrArg (List.take i) h2
    rw [List.take_take, List.take_take, Nat.min_eq_left (by omega), List.take_set_of_le (Nat.le_refl _)] at this
    exact this

set_option maxRecDepth 100000 in
set_option maxHeartbeats 3200000 in
/-- Where none is of which p holds, nothing is done. -/
theorem delete_none (g b : Nat) (u : Value) (p : S25 → Bool) (ha : Asks g b u p) (eg : ∀ args w, (callFunc g args).run Try.prog w = .ok (.enter g args) w) (A : Option Addr) (c : Nat) (l : List S25) (w : World)
    (hr : Kd.C k25 w A l.length l) (hbox : w.cell? ⟨b, 0, none⟩ = some u) (hn : ∀ j (h : j < l.length), p l[j] = false) :
    Calls Try.prog 43 #[.slice A l.length c, .func (.func g) #[] #[.pointer (some ⟨b, 0, none⟩)]] w fun e w' => e = .returned (.slice A l.length c) ∧ Below w.heap.size w w' := by
  have C := VerV.index_any g _ eg p A c l w hr (tells_of ha hbox l)
  rw [idx_miss p l hn] at C
  clear ha hr hbox hn eg
  go_enter Try.func43, Try.ntmps43
  go_wp2_with fail
  refine C.mono ?_
  rintro e w1 ⟨rfl, hb⟩
  have HB := Aside0.mk hb
  clear hb C
  go_wp2
  go_ret
  exact ⟨rfl, HB.out⟩

set_option maxRecDepth 100000 in
set_option maxHeartbeats 6400000 in
theorem delete_some (g b : Nat) (u : Value) (p : S25 → Bool) (ha : Asks g b u p) (eg : ∀ args w, (callFunc g args).run Try.prog w = .ok (.enter g args) w) (gb cap base : Nat) (ok : Nat → Prop) (l : List S25) (w : World)
    (hr : Kd.R k25 25 w base ok (.slice (some ⟨gb, 0, none⟩) l.length cap) l) (hbox : w.cell? ⟨b, 0, none⟩ = some u) (hne : b ≠ gb) (i0 : Nat) (hi0 : i0 < l.length) (hp0 : p l[i0] = true) (hn : ∀ j (h : j < l.length), j < i0 → p l[j] = false) :
    Calls Try.prog 43 #[.slice (some ⟨gb, 0, none⟩) l.length cap, .func (.func g) #[] #[.pointer (some ⟨b, 0, none⟩)]] w fun e w' =>
      e = .returned (.slice (some ⟨gb, 0, none⟩) (l.filter fun x => !p x).length cap) ∧ Kd.R k25 25 w' base ok (.slice (some ⟨gb, 0, none⟩) (l.filter fun x => !p x).length cap) (l.filter fun x => !p x) ∧ w.grownBy w' (some gb) := by
  obtain ⟨hn', hnc, hC⟩ := Kd.R_reads' hr
  have hm : l.length ≤ 9223372036854775807 := hC.2.1
  have C := VerV.index_any g _ eg p _ cap l w hC (tells_of ha hbox l)
  rw [idx_hit p l i0 hi0 hp0 hn] at C
  have HS := Half.start hi0 hp0 hn
  have HR := Aside0.mk hr
  have HBX := Aside0.mk hbox
  have HA := Aside0.mk ha
  clear ha hr hbox hn hC hn' hp0
  have hu := Try.underlying25
  have hub := Try.underlying60
  go_enter Try.func43, Try.ntmps43
  go_wp2_with fail
  refine C.mono ?_
  rintro e w1 ⟨rfl, hb⟩
  have HB := Aside0.mk hb
  clear hb C
  go_wp2
  go_loopw [5, 6] (fun i j wr => ∃ (ni nj : Nat) (ys : List S25), i = .int .i64 ni ∧ j = .int .i64 nj ∧ ni < nj ∧ nj ≤ l.length ∧ Aside0 (Half p l ys ni nj) ∧ Aside0 (Kd.R k25 25 wr base ok (.slice (some ⟨gb, 0, none⟩) l.length cap) ys) ∧ Aside0 (wr.cell? ⟨b, 0, none⟩ = some u) ∧ Aside0 (w.grownBy wr (some gb))) (fun _ j _ => l.length - (intOf j).toNat)
  case atStart => exact ⟨i0, i0 + 1, l, rfl, by go_num, by omega, by omega, ⟨HS⟩, ⟨Kd.R_below HR.out HB.out⟩, ⟨(HB.out.cell (World.block_lt_of_cell? _ _ HBX.out)).trans HBX.out⟩, ⟨⟨HB.out.os, HB.out.tape, HB.out.output, HB.out.size, fun i hi _ => HB.out.block i hi⟩⟩⟩
  case round =>
    clear HR HBX HB HS
    obtain ⟨ni, nj, ys, rfl, rfl, hij, hjl, HS, HR, HBX, HG⟩ := hrel
    by_cases hlt : nj < l.length
    · have hyl : nj < ys.length := by have := HS.out.len; omega
      obtain ⟨cq, hcq, hMq, hcc, hfr⟩ := Kd.R_elem HR.out z25 (nj : Int) (by omega) (by omega)
      have hx : ys.getD (nj : Int).toNat z25 = l[nj] := by
        have := HS.out.left nj (Nat.le_refl _)
        rw [Int.toNat_natCast, List.getD_eq_getElem?_getD, this, List.getElem?_eq_getElem hlt]
        rfl
      rw [hx] at hMq
      generalize hv : l[nj] = x at hMq
      have HV := Aside0.mk hv
      clear hv hx
      obtain rfl := k25_openM hMq
      have h0 : wr.cell? ⟨gb, nj * 4, none⟩ = some (.int .u64 x.f0) := hcc 0 _ rfl
      have h1 : wr.cell? ⟨gb, nj * 4 + 1, none⟩ = some (.string x.f1) := hcc 1 _ rfl
      have h2 : wr.cell? ⟨gb, nj * 4 + 2, none⟩ = some (.bool x.f2) := hcc 2 _ rfl
      have h3 : wr.cell? ⟨gb, nj * 4 + 3, none⟩ = some (.int .i64 x.f3) := hcc 3 _ rfl
      clear hcq hMq hcc hfr
      have HW : Below wr.heap.size wr (wr.alloc (.cells #[.int .u64 x.f0, .string x.f1, .bool x.f2, .int .i64 x.f3] 25)) := (Below.refl _ _).alloc (Nat.le_refl _) _
      have hcall := HA.out (wr.alloc (.cells #[.int .u64 x.f0, .string x.f1, .bool x.f2, .int .i64 x.f3] 25)) x ((HW.cell (World.block_lt_of_cell? _ _ HBX.out)).trans HBX.out)
      have BK0 : (wr.alloc (.cells #[.int .u64 x.f0, .string x.f1, .bool x.f2, .int .i64 x.f3] 25)).heap[wr.heap.size]? = some (.cells #[.int .u64 x.f0, .string x.f1, .bool x.f2, .int .i64 x.f3] 25 (0, 0)) := Array.getElem?_push_size
      have HBK := Aside0.mk BK0
      have HWA := Aside0.mk HW
      clear HW BK0
      generalize hq : p x = q at hcall
      have HQ := Aside0.mk hq
      clear hq
      cases q with
      | true =>
        go_wp2_with fail
        refine hcall.mono ?_
        rintro e w2 ⟨rfl, hb2⟩
        have HB2 := Aside0.mk (below_step HWA.out hb2)
        clear hb2 hcall h0 h1 h2 h3
        go_wp2
        refine ⟨⟨_, _, _, _, _, _, _, _, _, _, _, _, _, _, _, _, _, _, _, _, _, _, _, ?rel, rfl⟩, ?measure⟩
        case measure => simp [intOf]; omega
        case rel => exact ⟨ni, nj + 1, ys, rfl, by go_num, by omega, by omega, ⟨HS.out.skip hlt (by rw [HV.out]; exact HQ.out)⟩, ⟨Kd.R_below HR.out HB2.out⟩, ⟨(HB2.out.cell (World.block_lt_of_cell? _ _ HBX.out)).trans HBX.out⟩, ⟨HG.out.trans ⟨HB2.out.os, HB2.out.tape, HB2.out.output, HB2.out.size, fun i hi _ => HB2.out.block i hi⟩⟩⟩
      | false =>
        go_wp2_with fail
        refine hcall.mono ?_
        rintro e w2 ⟨rfl, hb2⟩
        have BK2 := blk_below HBK.out hb2
        have HB2 := Aside0.mk (below_step HWA.out hb2)
        clear hb2 hcall h0 h1 h2 h3
        have g0 : w2.cell? ⟨wr.heap.size, 0, none⟩ = some (.int .u64 x.f0) := (blk_cell BK2 0).trans rfl
        have g1 : w2.cell? ⟨wr.heap.size, 1, none⟩ = some (.string x.f1) := (blk_cell BK2 1).trans rfl
        have g2 : w2.cell? ⟨wr.heap.size, 2, none⟩ = some (.bool x.f2) := (blk_cell BK2 2).trans rfl
        have g3 : w2.cell? ⟨wr.heap.size, 3, none⟩ = some (.int .i64 x.f3) := (blk_cell BK2 3).trans rfl
        clear BK2
        have HR2 := Aside0.mk (Kd.R_below HR.out HB2.out)
        have hyi : ni < ys.length := by omega
        obtain ⟨cq, hcq, hMq, hcc, hfr⟩ := Kd.R_elem HR2.out z25 (ni : Int) (by omega) (by omega)
        generalize hv : ys.getD (ni : Int).toNat z25 = y at hMq
        clear hv
        obtain rfl := k25_openM hMq
        have h0 : w2.cell? ⟨gb, ni * 4, none⟩ = some (.int .u64 y.f0) := hcc 0 _ rfl
        have h1 : w2.cell? ⟨gb, ni * 4 + 1, none⟩ = some (.string y.f1) := hcc 1 _ rfl
        have h2 : w2.cell? ⟨gb, ni * 4 + 2, none⟩ = some (.bool y.f2) := hcc 2 _ rfl
        have h3 : w2.cell? ⟨gb, ni * 4 + 3, none⟩ = some (.int .i64 y.f3) := hcc 3 _ rfl
        have f0 : w2.frozen? ⟨gb, ni * 4, none⟩ = false := hfr 0
        have f1 : w2.frozen? ⟨gb, ni * 4 + 1, none⟩ = false := hfr 1
        have f2 : w2.frozen? ⟨gb, ni * 4 + 2, none⟩ = false := hfr 2
        have f3 : w2.frozen? ⟨gb, ni * 4 + 3, none⟩ = false := hfr 3
        have HC := Aside0.mk hcc
        clear hcc hfr hcq hMq
        go_wp2
        refine ⟨⟨_, _, _, _, _, _, _, _, _, _, _, _, _, _, _, _, _, _, _, _, _, _, _, ?rel, rfl⟩, ?measure⟩
        case measure => simp [intOf]; omega
        case rel =>
          have hseg := Kd.R_seg (d := k25) HR2.out (ni : Int) (by omega) (by omega) (c := [.int .u64 y.f0, .string y.f1, .bool y.f2, .int .i64 y.f3]) (seg := [.int .u64 x.f0, .string x.f1, .bool x.f2, .int .i64 x.f3]) (j := 0) rfl HC.out (Nat.le_refl 4) (x' := x) (okp := fun _ => False) (k25_mkM _ _ _ x) (fun _ h => h.elim)
          have hG2 : wr.grownBy w2 (some gb) := ⟨HB2.out.os, HB2.out.tape, HB2.out.output, HB2.out.size, fun i hi _ => HB2.out.block i hi⟩
          refine ⟨ni + 1, nj + 1, ys.set ni x, by go_num, by go_num, by omega, by omega, ⟨?_⟩, ⟨hseg.1⟩, ⟨?_⟩, ⟨(HG.out.trans hG2).trans hseg.2⟩⟩
          · have := HS.out.keep hij hlt (by rw [HV.out]; exact HQ.out)
            rw [HV.out] at this
            exact this
          · have hb := HBX.out
            have h2 := (HB2.out.cell (World.block_lt_of_cell? _ _ hb)).trans hb
            exact (hseg.2.cell_far ⟨b, 0, none⟩ (World.block_lt_of_cell? _ _ h2) (fun e => hne (Option.some.inj e))).trans h2
    · obtain rfl : nj = l.length := by omega
      obtain ⟨hl', _, _⟩ := Kd.R_reads' HR.out
      have hat : ∀ j, j < (l.length - ni) * 4 → (∃ v, wr.cell? ⟨gb, ni * 4 + j, none⟩ = some v) ∧ wr.frozen? ⟨gb, ni * 4 + j, none⟩ = false := fun j hj => by
        obtain ⟨c, hcl, _, hcc, hfr⟩ := Kd.R_elem HR.out z25 ((ni + j / 4 : Nat) : Int) (by omega) (by omega)
        have e : ni * 4 + j = (((ni + j / 4 : Nat) : Int)).toNat * 4 + j % 4 := by rw [Int.toNat_natCast]; omega
        have h4 : j % 4 < c.length := by rw [hcl]; exact Nat.mod_lt _ (by decide)
        rw [e]
        exact ⟨⟨_, hcc (j % 4) _ (List.getElem?_eq_getElem h4)⟩, hfr (j % 4)⟩
      have hclr := run_clear_rows (P := Try.prog) wr 60 25 0 hub zero_ver gb (ni * 4) (l.length - ni) (cap - ni) (by omega) (fun j hj => by obtain ⟨⟨v, hv⟩, _⟩ := hat j hj; rw [hv]; rfl) (fun j hj => (hat j hj).2)
      obtain ⟨ys', c1, c2, c3, c4⟩ := cleared (l.length - ni) ni ys wr HR.out (by omega)
      have hfil : ys'.take ni = l.filter fun x => !p x := by
        rw [c2, HS.out.got, List.take_length]
      have hlen : (l.filter fun x => !p x).length = ni := by
        rw [← hfil, List.length_take]
        omega
      have HR3 := Kd.R_take c1 (m := ni) (by omega)
      rw [hfil] at HR3
      have HE := Aside0.mk (And.intro HR3 c4)
      have HLN := Aside0.mk hlen
      clear hat c1 c2 c3 c4 hfil HR3 hl' hlen
      go_wp2
      go_ret
      have hlen := HLN.out
      rw [hlen]
      exact ⟨rfl, HE.out.1, HG.out.trans HE.out.2⟩
end Go.Proofs.Ytldmidoemcdaaaa.VDel
