/-
  slices.Insert of one version ahead of chain.versions of the call's own: no room: a new row.
-/
import Derived.Test.YtldmidoemcdaaaaVFill
import Derived.Shelf.Spec.SlicesInsert
import Derived.Shelf.RegionOpenPlain
set_option linter.unusedVariables false
namespace Go.Proofs.Ytldmidoemcdaaaa.VGrow
open Go.RowKit Go.Proofs.Ytldmidoemcdaaaa.P Go.Proofs.YtldmidoemcdaaaaW.PrintWords Go.Proofs.YtldmidoemcdaaaaW.PrintLast Go.Proofs.YtldmidoemcdaaaaW.PrintMore Go.Proofs.Ytldmidoemcdaaaa.PureKit Go.Proofs.Ytldmidoemcdaaaa.IdxV Go.Proofs.Ytldmidoemcdaaaa.VDel Go.Proofs.Ytldmidoemcdaaaa.VCopy Go.Proofs.Ytldmidoemcdaaaa.VApp Go.Proofs.Ytldmidoemcdaaaa.VZeros Go.Proofs.Ytldmidoemcdaaaa.VFill

/-- The operation copy where its run is known. -/
theorem wpList_copy_run {P : Program} {W : World} {ops : Array Oper} {rest : List Oper} {o : Oper} {a : Act} {Q : Exit → Act → World → Prop} (hgd : o.guard = none) (s x : Operand) (t t' : TypeId)
    (ho : o.op = .call { callee := .builtin .copy, args := #[s, x], argTypes := #[t, t'] }) {v u : Value} (hs : a.eval s = v) (hx : a.eval x = u) {v' : Value} {w' : World}
    (hr : (Builtin.copy_ #[t, t'] o.type #[v, u]).run P W = .ok v' w') (h : wpList P ops Q rest (a.put o.dst v') w') : wpList P ops Q (o :: rest) a W :=
  wpList_plain hgd fun K hK => by
    unfold Oper.wp execOp
    simp only [ho, resolve, invoke, builtin, Sem.run_bind, Sem.run_pure, Result.andThen_ok, List.map_toArray, List.map_cons, List.map_nil, hs, hx, hr]
    exact hK _ _ h

theorem info_ver : ∃ i : TypeInfo, Try.prog.info? 25 = some i ∧ i.zero = some (.agg z4) ∧ i.size = 4 ∧ i.bytes = 40 := by
  obtain ⟨i, hi, h⟩ := Option.map_eq_some_iff.1 info25
  simp only [Prod.mk.injEq] at h
  exact ⟨i, hi, h.1, h.2.1, h.2.2⟩
theorem reps_zeros (w : World) (base : Nat) (ok : Nat → Prop) : ∀ m, Reps (k25.M w base ok) 4 (List.replicate m z25) (zs m)
  | 0 => by rw [zs_zero]; exact Reps.none _ _
  | m + 1 => by
    rw [zs_succ]
    refine ⟨by rw [List.length_append, zs_len, List.length_replicate]; simp; omega, fun j p hj => ?_⟩
    obtain rfl : p = z25 := by
      have := List.mem_of_getElem? hj
      exact List.eq_of_mem_replicate this
    cases j with
    | zero => exact k25_mkM _ _ _ _
    | succ j =>
      have ih := (reps_zeros w base ok m).2 j z25 (by
        rw [List.getElem?_replicate] at hj ⊢
        split at hj
        · rw [if_pos (by omega)]
        · cases hj)
      rw [show (j + 1) * 4 = 4 + j * 4 by omega]
      have e : List.drop (4 + j * 4) ([.int .u64 0, .string ⟨#[]⟩, .bool false, .int .i64 0] ++ zs m) = List.drop (j * 4) (zs m) := by
        rw [Nat.add_comm]
        rfl
      rw [e]
      exact ih
/-- The new row's first words: zeros. -/
theorem zeros_row (base : Nat) (w : World) (m c : Nat) (hb : base ≤ w.heap.size) (hmc : m ≤ c) (hc : c ≤ 9223372036854775807) :
    Kd.R k25 25 (w.drew.alloc (.cells (Builtin.zeroCells z4 m ++ Builtin.zeroCells z4 (c - m)) 25)) base (fun _ => True) (.slice (some ⟨w.heap.size, 0, none⟩) m c) (List.replicate m z25) := by
  have hz : ∀ k, (Builtin.zeroCells z4 k).size = k * 4 := fun k => by simp [Builtin.zeroCells, z4]
  refine ⟨fun _ _ => trivial, zs m, ⟨?_, .inr ⟨w.heap.size, c, _, ?_, hb, Array.getElem?_push_size, ?_, hc, ?_, ?_⟩⟩, reps_zeros _ _ _ m⟩
  · rw [zs_len, List.length_replicate]; rfl
  · rw [List.length_replicate]
  · rw [List.length_replicate]; exact hmc
  · show (Builtin.zeroCells z4 m ++ Builtin.zeroCells z4 (c - m)).size = c * 4
    rw [Array.size_append, hz, hz]
    omega
  · show (Builtin.zeroCells z4 m ++ Builtin.zeroCells z4 (c - m)).toList.take ((List.replicate m z25).length * 4) = zs m
    rw [List.length_replicate, Array.toList_append]
    exact List.take_left' (zs_len m)

theorem flat_of {w : World} : ∀ (l : List S25) (news : List Value), Reps (k25.K w) 4 l news → news = l.flatMap cs
  | [], news, h => by
    have := h.1
    simp at this
    simp [this]
  | x :: l, news, h => by
    have h0 := h.2 0 x rfl
    have e0 := k25_open h0
    rw [Nat.zero_mul, List.drop_zero] at e0
    have e0 : news.take 4 = cs x := e0
    have hr : Reps (k25.K w) 4 l (news.drop 4) := ⟨by rw [List.length_drop, h.1, List.length_cons]; omega, fun j p hj => by
      have := h.2 (j + 1) p (by simpa using hj)
      rw [List.drop_drop, show 4 + j * 4 = (j + 1) * 4 by omega]
      exact this⟩
    rw [List.flatMap_cons, ← flat_of l _ hr, ← e0, List.take_append_drop]
theorem flat_cells {w : World} {ad : Addr} {n : Nat} {l : List S25} (h : Kd.C k25 w (some ad) n l) : ∀ j v, (l.flatMap cs)[j]? = some v → w.cell? (ad.add j) = some v := by
  obtain ⟨news, h1, h2⟩ := ReadsRow.inner_ h
  rw [← flat_of l news h1]
  exact h2
theorem flat_len : ∀ l : List S25, (l.flatMap cs).length = l.length * 4
  | [] => rfl
  | x :: l => by
    rw [List.flatMap_cons, List.length_append, flat_len l, List.length_cons, Nat.succ_mul, Nat.add_comm]
    rfl
set_option maxRecDepth 100000 in
set_option maxHeartbeats 3200000 in
theorem insert_grow (base gb c0 : Nat) (w : World) (B : Option Addr) (cb : Nat) (x : S25) (l : List S25) (hne : 0 < l.length) (hlen : l.length < 3518437208) (hroom : c0 < l.length + 1)
    (hr : Kd.R k25 25 w base (fun _ => True) (.slice (some ⟨gb, 0, none⟩) l.length c0) l) (hx : Kd.C k25 w B 1 [x]) (hcb : 1 ≤ cb) (hbs : base ≤ w.heap.size) :
    Calls Try.prog 36 #[.slice (some ⟨gb, 0, none⟩) l.length c0, .int .i64 0, .slice B 1 cb] w fun e w' =>
      ∃ v', e = .returned v' ∧ Kd.R k25 25 w' base (fun _ => True) v' (x :: l) ∧ Below base w w' := by
  obtain ⟨i, hi, hz, hs, hby⟩ := info_ver
  have hzr := run_zeros_grow (P := Try.prog) w 60 3 60 25 i (.agg z4) Try.underlying60 Try.underlying3 hi hz (by omega) .i64 (some ⟨gb, 0, none⟩) c0 (l.length + 1) hroom (by rw [hby]; omega) (by omega)
  obtain ⟨_, hnc, hC⟩ := Kd.R_reads' hr
  obtain ⟨gs, hgs, hcap⟩ : ∃ gs, grownCap w (l.length + 1) c0 25 = gs ∧ l.length + 1 ≤ gs := ⟨_, rfl, grownCap_ge w _ _ _⟩
  have hmx : gs ≤ 9223372036854775807 := hgs ▸ grownCap_le_maxLen w (l.length + 1) c0 25 (by simp only [maxLen]; omega)
  rw [hgs] at hzr
  obtain ⟨W1, hW1⟩ : ∃ W1, W1 = w.drew.alloc (.cells (Builtin.zeroCells z4 (l.length + 1) ++ Builtin.zeroCells z4 (gs - (l.length + 1))) 25) := ⟨_, rfl⟩
  have hR1 := zeros_row base w (l.length + 1) gs hbs hcap hmx
  have hB1 : Below w.heap.size w W1 := by rw [hW1]; exact below_alloc (below_drew (Below.refl _ _)) _
  rw [← hW1] at hR1
  have hzr' : (Builtin.append_ #[60, 3] 60 #[.slice (some ⟨gb, 0, none⟩) 0 c0, .int .i64 ((l.length : Int) + 1)]).run Try.prog w = .ok (.slice (some ⟨w.heap.size, 0, none⟩) (l.length + 1) gs) W1 := by rw [hW1]; exact hzr
  -- the version's cells
  obtain ⟨ad, hBe, hcx⟩ := hx.2.2 (by decide)
  subst hBe
  obtain ⟨cx, hcxl, hKx, hcxc⟩ := hcx 0 x rfl
  obtain rfl := k25_open hKx
  have at1 : ∀ k, k < l.length + 1 → ∀ j, j < 4 → (∃ v, W1.cell? ⟨w.heap.size, k * 4 + j, none⟩ = some v) ∧ W1.frozen? ⟨w.heap.size, k * 4 + j, none⟩ = false := fun k hk j hj => by
    obtain ⟨c, hcl, _, hcc, hfr⟩ := Kd.R_elem hR1 z25 (k : Int) (by omega) (by omega)
    have h4 : j < c.length := by rw [hcl]; exact hj
    exact ⟨⟨_, hcc j _ (List.getElem?_eq_getElem h4)⟩, hfr j⟩
  have hs4 : (Try.prog.info? 25).map (·.size) = some 4 := by rw [hi]; simp [hs]
  have hc1 := run_copy_rows (P := Try.prog) W1 60 22 3 25 4 w.heap.size 0 (l.length + 1) gs ad 1 cb 1 (cs x) Try.underlying60 hs4 (by show 1 = min 1 (l.length + 1); omega) rfl
    (fun j v hj => by
      have := hcxc j v hj
      rw [Nat.zero_mul, Nat.zero_add] at this
      exact (hB1.cell (World.block_lt_of_cell? _ _ this)).trans this)
    (fun j hj => by obtain ⟨⟨v, hv⟩, _⟩ := at1 0 (by omega) j hj; rw [Nat.zero_mul] at hv; rw [hv]; rfl)
    (fun j hj => by have := (at1 0 (by omega) j hj).2; rw [Nat.zero_mul] at this; exact this)
    (fun v hv => by
      simp only [cs, List.mem_cons, List.not_mem_nil, or_false] at hv
      rcases hv with rfl | rfl | rfl | rfl <;> rfl)
  have hmix : Try.prog.follows Departure.mixedOrders = true := by kernel_rfl
  have hw1 : IntKind.i64.wrap 1 = 1 := rfl
  have hb1 : (1 : Int) ≤ (l.length : Int) + 1 := by omega
  have hg1 : ¬ (gs = 1) := by omega
  have htn : (1 : Int).toNat = 1 := rfl
  -- the second copy
  have e1 : ([x] : List S25).flatMap cs = cs x := by simp
  obtain ⟨hR2, hG2⟩ := copied [x] 0 _ W1 hR1 (by simp)
  rw [Nat.zero_mul, e1] at hR2 hG2
  have e2 : (List.replicate (l.length + 1) z25).take 0 ++ [x] ++ (List.replicate (l.length + 1) z25).drop (0 + [x].length) = x :: List.replicate l.length z25 := by simp [List.drop_replicate]
  rw [e2] at hR2
  have hR2' := Kd.R_drew hR2
  obtain ⟨hR3, hG3⟩ := copied l 1 _ _ hR2' (by omega)
  have e3 : (x :: List.replicate l.length z25).take 1 ++ l ++ (x :: List.replicate l.length z25).drop (1 + l.length) = x :: l := by
    rw [List.drop_of_length_le (by simp; omega)]
    simp
  rw [e3] at hR3
  have hgbw : gb < w.heap.size := by
    obtain ⟨g2, c2, he, h1, h2, _⟩ := Kd.R_form hr hne
    simp only [Value.slice.injEq, Option.some.injEq, Addr.mk.injEq] at he
    omega
  have hfl := flat_len l
  have at2 : ∀ j, j < l.length * 4 → (∃ v, (W1.setCells w.heap.size 0 (cs x)).drew.cell? ⟨w.heap.size, 4 + j, none⟩ = some v) ∧ (W1.setCells w.heap.size 0 (cs x)).drew.frozen? ⟨w.heap.size, 4 + j, none⟩ = false := fun j hj => by
    obtain ⟨c, hcl, _, hcc, hfr⟩ := Kd.R_elem hR2' z25 ((1 + j / 4 : Nat) : Int) (by omega) (by omega)
    have e : 4 + j = (((1 + j / 4 : Nat) : Int)).toNat * 4 + j % 4 := by rw [Int.toNat_natCast]; omega
    have h4 : j % 4 < c.length := by rw [hcl]; exact Nat.mod_lt _ (by decide)
    rw [e]
    exact ⟨⟨_, hcc (j % 4) _ (List.getElem?_eq_getElem h4)⟩, hfr (j % 4)⟩
  have hc2 := run_copy_rows (P := Try.prog) (W1.setCells w.heap.size 0 (cs x)).drew 60 60 3 25 4 w.heap.size 4 l.length (gs - 1) ⟨gb, 0, none⟩ l.length c0 l.length (l.flatMap cs) Try.underlying60 hs4 (by show l.length = min l.length l.length; omega) hfl
    (fun j v hj => by
      have h := flat_cells hC j v hj
      rw [Addr.add_lit] at h ⊢
      have h2 := (hB1.cell (World.block_lt_of_cell? _ _ h)).trans h
      exact (hG2.cell_far _ (World.block_lt_of_cell? _ _ h2) (fun e => by
        have e2 : gb = w.heap.size := Option.some.inj e
        omega)).trans h2)
    (fun j hj => by obtain ⟨⟨v, hv⟩, _⟩ := at2 j (by omega); rw [hv]; rfl)
    (fun j hj => (at2 j (by omega)).2)
    (fun v hv => by
      obtain ⟨y, _, hy⟩ := List.mem_flatMap.1 hv
      simp only [cs, List.mem_cons, List.not_mem_nil, or_false] at hy
      rcases hy with rfl | rfl | rfl | rfl <;> rfl)
  have HC2 := Aside0.mk hc2
  have b1 : Below base w W1 := ⟨hB1.os, hB1.tape, hB1.output, hB1.size, fun k hk => hB1.block k (by omega)⟩
  have b2 := b1.grown hG2 (Nat.le_trans hbs b1.size) (fun k e => by cases e; exact hbs)
  have b3 := below_drew b2
  have b4 := b3.grown hG3 (Nat.le_trans hbs b3.size) (fun k e => by cases e; exact hbs)
  have HE := Aside0.mk (And.intro hR3 b4)
  clear at2 b1 b2 b3 b4 hc2 hR2 hR2' hR3 hG2 hG3 e1 e2 e3 hfl hgbw
  have HZ := Aside0.mk hzr'
  rw [show (goInt ((1 : Nat) : Int)) = .int .i64 1 from rfl] at hc1
  have HR1 := Aside0.mk hR1
  have HB1 := Aside0.mk hB1
  have HC := Aside0.mk hC
  have HBS := Aside0.mk hbs
  clear hzr hzr' hr hx hbs hi hz hs hby hgs hW1 hR1 hB1 hC hcx hcxl hKx hcxc at1 hmx
  have hu := Try.underlying25
  have h0 : ((l.length : Int) == 0) = false := by rw [beq_eq_false_iff_ne]; omega
  have h0' : ((0 : Int) == (l.length : Int)) = false := by rw [beq_eq_false_iff_ne]; omega
  go_enter Try.func36, Try.ntmps36
  go_wp2_with ((with_reducible refine gate_builtin (b := .append) (xs := #[.tmp 34, .tmp 39]) rfl ?_); at_builtin; refine wpList_append_run rfl (.tmp 34) (.tmp 39) 60 3 rfl rfl rfl HZ.out ?_)
  go_region_law_o (refine step_copy_runI rfl _ _ 60 60 rfl (.slice (some ⟨w.heap.size, 4, none⟩) l.length (gs - 1)) (.slice (some ⟨gb, 0, none⟩) l.length c0) (by simp [Act.eval, Act.put]) (by simp [Act.eval, Act.put]) HC2.out ?_)
  go_wp2
  go_ret
  exact ⟨_, rfl, HE.out.1, HE.out.2⟩
end Go.Proofs.Ytldmidoemcdaaaa.VGrow
