/-
  slices.Insert with room: the row's block written over (the law of the memory; the walk is not here yet).
-/
import Derived.Test.YtldmidoemcdaaaaVGrow
import Derived.Lib.Overlaps
set_option linter.unusedVariables false
namespace Go.Proofs.Ytldmidoemcdaaaa.VRoom
open Go.RowKit Go.Proofs.Ytldmidoemcdaaaa.P Go.Proofs.YtldmidoemcdaaaaW.PrintWords Go.Proofs.YtldmidoemcdaaaaW.PrintLast Go.Proofs.YtldmidoemcdaaaaW.PrintMore Go.Proofs.Ytldmidoemcdaaaa.PureKit Go.Proofs.Ytldmidoemcdaaaa.IdxV Go.Proofs.Ytldmidoemcdaaaa.VDel Go.Proofs.Ytldmidoemcdaaaa.VCopy Go.Proofs.Ytldmidoemcdaaaa.VApp Go.Proofs.Ytldmidoemcdaaaa.VZeros Go.Proofs.Ytldmidoemcdaaaa.VFill Go.Proofs.Ytldmidoemcdaaaa.VGrow

theorem reps_of (w : World) (base : Nat) (ok : Nat → Prop) : ∀ l : List S25, Reps (k25.M w base ok) 4 l (l.flatMap cs)
  | [] => Reps.none _ _
  | x :: l => by
    refine ⟨flat_len (x :: l), fun j p hj => ?_⟩
    rw [List.flatMap_cons]
    cases j with
    | zero =>
      obtain rfl : x = p := by simpa using hj
      exact k25_mkM _ _ _ _
    | succ j =>
      have ih := (reps_of w base ok l).2 j p (by simpa using hj)
      rw [show (j + 1) * 4 = j * 4 + 4 by omega]
      exact ih
theorem room_row (base gb c0 : Nat) (w : World) (x : S25) (l : List S25) (hne : 0 < l.length) (hroom : l.length + 1 ≤ c0)
    (hr : Kd.R k25 25 w base (fun _ => True) (.slice (some ⟨gb, 0, none⟩) l.length c0) l) :
    Kd.R k25 25 ((w.drew.setCells gb 4 (l.flatMap cs)).setCells gb 0 (cs x)) base (fun _ => True) (.slice (some ⟨gb, 0, none⟩) (l.length + 1) c0) (x :: l) := by
  obtain ⟨_, inner, ⟨hil, hor⟩, _⟩ := hr
  rcases hor with ⟨he, _⟩ | ⟨g, cap, cur, he, hbg, hg, hnc, hcm, hcs, htake⟩
  · cases he
  · cases he
    have hcs' : cur.size = c0 * 4 := hcs
    have hg' : w.drew.heap[gb]? = some (.cells cur 25 (0, 0)) := hg
    obtain ⟨cur1, h1, h2, h3⟩ := setCells_row (l.flatMap cs) 4 w.drew cur hg' (by rw [flat_len]; omega)
    obtain ⟨cur2, k1, k2, k3⟩ := setCells_row (cs x) 0 _ cur1 h1 (by show 0 + 4 ≤ _; omega)
    refine ⟨fun _ _ => trivial, (x :: l).flatMap cs, ⟨flat_len _, .inr ⟨gb, c0, cur2, rfl, hbg, k1, hroom, hcm, by rw [k2, h2]; exact hcs, ?_⟩⟩, reps_of _ _ _ _⟩
    have hd : cur1.toList.drop 4 = l.flatMap cs ++ cur.toList.drop (4 + (l.flatMap cs).length) := by
      rw [h3, List.append_assoc]
      exact List.drop_left' (by rw [List.length_take, Array.length_toList]; omega)
    have e : cur2.toList = (cs x ++ l.flatMap cs) ++ cur.toList.drop (4 + (l.flatMap cs).length) := by
      rw [k3]
      show [] ++ cs x ++ List.drop (0 + 4) cur1.toList = _
      rw [Nat.zero_add, hd, List.nil_append, List.append_assoc]
    rw [e, List.flatMap_cons]
    refine List.take_left' ?_
    rw [List.length_append, flat_len]
    show 4 + l.length * 4 = (l.length + 1) * 4
    omega
theorem room_grown (gb : Nat) (w : World) (x : S25) (l : List S25) : w.grownBy ((w.drew.setCells gb 4 (l.flatMap cs)).setCells gb 0 (cs x)) (some gb) := by
  obtain ⟨a1, a2, a3, a4⟩ := setCells_same gb (l.flatMap cs) 4 w.drew
  obtain ⟨b1, b2, b3, b4⟩ := setCells_same gb (cs x) 0 (w.drew.setCells gb 4 (l.flatMap cs))
  refine ⟨b1.trans a1, b2.trans a2, b3.trans a3, ?_, fun k hk hne => ?_⟩
  · rw [b4, a4]
    exact Nat.le_refl _
  · have hk2 : k ≠ gb := fun e => hne (by rw [e])
    rw [setCells_far _ _ k hk2, setCells_far _ _ k hk2]
    rfl

set_option maxRecDepth 100000 in
set_option maxHeartbeats 3200000 in
theorem insert_room (base gb c0 : Nat) (w : World) (vb cb : Nat) (cv : Array Value) (tv : TypeId) (x : S25) (l : List S25) (hne : 0 < l.length) (hlen : l.length < 3518437208) (hroom : l.length + 1 ≤ c0)
    (hr : Kd.R k25 25 w base (fun _ => True) (.slice (some ⟨gb, 0, none⟩) l.length c0) l) (hv : w.heap[vb]? = some (.cells cv tv (0, 0))) (hx : Kd.C k25 w (some ⟨vb, 0, none⟩) 1 [x]) (hvb : vb ≠ gb) (hcb : 1 ≤ cb) (hbs : base ≤ w.heap.size) :
    Calls Try.prog 36 #[.slice (some ⟨gb, 0, none⟩) l.length c0, .int .i64 0, .slice (some ⟨vb, 0, none⟩) 1 cb] w fun e w' =>
      ∃ v', e = .returned v' ∧ Kd.R k25 25 w' base (fun _ => True) v' (x :: l) ∧ Below base w w' := by
  obtain ⟨_, hnc, hC⟩ := Kd.R_reads' hr
  obtain ⟨g2, c2, he, hgb0, hgb1, cur, hcur⟩ := Kd.R_form hr hne
  simp only [Value.slice.injEq, Option.some.injEq, Addr.mk.injEq, and_true, true_and] at he
  obtain ⟨rfl, rfl⟩ := he
  have hov : ∀ n c, (callFunc 45 #[.slice (some ⟨vb, 0, none⟩) 1 cb, .slice (some ⟨gb, 4, none⟩) n c]).run Try.prog w = .ok (.value (.bool false)) w := fun n c => by
    rw [run_callFunc_extern Try.func45 (by kernel_rfl) (by kernel_rfl) (by kernel_rfl) (e := Extern.SlicesOverlaps.overlaps #[22, 22] #[4]) (by kernel_rfl),
      Lib.run_overlaps_apart (P := Try.prog) w 22 4 25 Try.underlying22 4 (fun w => by
        obtain ⟨i, hi, _, hs, _⟩ := info_ver
        simp [sizeOf, typeInfo, hi, hs]) ⟨vb, 0, none⟩ ⟨gb, 4, none⟩ 1 cb n c hvb tv 25 cv.size cur.size (by simp [World.shape?, hv]) (by simp [World.shape?, hcur]) (by
        have := (Kd.R_elem hr z25 0 (by omega) (by omega))
        obtain ⟨c, hcl, _, hcc, _⟩ := this
        have h4 : 0 < c.length := by rw [hcl]; decide
        have h5 := hcc 0 _ (List.getElem?_eq_getElem h4)
        intro h0
        have h6 : cur = #[] := Array.eq_empty_of_size_eq_zero h0
        rw [h6] at hcur
        have h7 := (blk_cell hcur 0)
        have h8 : w.cell? ⟨gb, 0, none⟩ = some c[0] := h5
        exact absurd (h8.symm.trans h7) (by simp)) (blk_frozen hv 0) (blk_frozen hv cv.size)]
    rfl
  have hcur4 : (l.length + 1) * 4 ≤ cur.size := by
    obtain ⟨_, inner, ⟨_, hor⟩, _⟩ := hr
    rcases hor with ⟨he, _⟩ | ⟨g, cap, cur', he, _, hg, _, _, hcs, _⟩
    · cases he
    · cases he
      rw [hcur] at hg
      cases hg
      have : cur.size = c0 * 4 := hcs
      omega
  have hs4 : (Try.prog.info? 25).map (·.size) = some 4 := by
    obtain ⟨i, hi, _, hs, _⟩ := info_ver
    rw [hi]; simp [hs]
  have atw : ∀ j, j < (l.length + 1) * 4 → (w.cell? ⟨gb, j, none⟩).isSome = true := fun j hj => by
    rw [blk_cell hcur j, Array.getElem?_eq_getElem (by omega)]
    rfl
  have one : ∀ (m : List S25), ∀ v ∈ m.flatMap cs, v.oneCell' = true := fun m v hv => by
    obtain ⟨y, _, hy⟩ := List.mem_flatMap.1 hv
    simp only [cs, List.mem_cons, List.not_mem_nil, or_false] at hy
    rcases hy with rfl | rfl | rfl | rfl <;> rfl
  have hc1 := run_copy_rows (P := Try.prog) w.drew 60 60 3 25 4 gb 4 l.length (c0 - 1) ⟨gb, 0, none⟩ (l.length + 1) c0 l.length (l.flatMap cs) Try.underlying60 hs4 (by show l.length = min (l.length + 1) l.length; omega) (flat_len l)
    (fun j v hj => flat_cells hC j v hj)
    (fun j hj => by rw [flat_len] at hj; exact atw (4 + j) (by omega))
    (fun j _ => blk_frozen hcur _) (one l)
  have e1 : ([x] : List S25).flatMap cs = cs x := by simp
  have hc2 := run_copy_rows (P := Try.prog) (w.drew.setCells gb 4 (l.flatMap cs)) 60 22 3 25 4 gb 0 (l.length + 1) c0 ⟨vb, 0, none⟩ 1 cb 1 (cs x) Try.underlying60 hs4 (by show 1 = min 1 (l.length + 1); omega) rfl
    (fun j v hj => by
      have h := flat_cells hx j v (by rw [e1]; exact hj)
      rw [Addr.add_lit] at h ⊢
      rw [World.cell?_setCells_out _ _ _ _ _ (fun e _ => absurd e hvb)]
      exact h)
    (fun j hj => by
      have hj4 : j < 4 := hj
      rw [World.cell?_setCells_out _ _ _ _ _ (fun _ _ => .inl (by show 0 + j < 4; omega))]
      exact atw _ (by omega))
    (fun j _ => by rw [World.frozen?_setCells]; exact blk_frozen hcur _) (fun v hv => one [x] v (by rw [e1]; exact hv))
  rw [show (goInt ((1 : Nat) : Int)) = .int .i64 1 from rfl] at hc2
  have b1 : Below base w w := Below.refl _ _
  have HE := Aside0.mk (And.intro (room_row base gb c0 w x l hne hroom hr) (b1.grown (room_grown gb w x l) hbs (fun k e => by cases e; exact hgb0)))
  have HC1 := Aside0.mk hc1
  have hmix : Try.prog.follows Departure.mixedOrders = true := by kernel_rfl
  have hw1 : IntKind.i64.wrap 1 = 1 := rfl
  have hb1 : (1 : Int) ≤ (l.length : Int) + 1 := by omega
  have hg1 : ¬ (c0 = 1) := by omega
  have hg2 : ¬ (c0 < l.length + 1) := by omega
  have hg4 : (0 : Int) ≤ (l.length : Int) + 1 := by omega
  have hg3 : (l.length : Int) + 1 ≤ (c0 : Int) := by omega
  have htn : (1 : Int).toNat = 1 := rfl
  have h0 : ((l.length : Int) == 0) = false := by rw [beq_eq_false_iff_ne]; omega
  have h0' : ((0 : Int) == (l.length : Int)) = false := by rw [beq_eq_false_iff_ne]; omega
  clear hr hx hC hbs hgb0 hgb1 hcur hv hcur4 atw one e1 b1 hc1 hs4
  have hu := Try.underlying25
  go_enter Try.func36, Try.ntmps36
  go_wp2
  go_region_law_o (refine step_copy_runI rfl _ _ 60 60 rfl (.slice (some ⟨gb, 4, none⟩) l.length (c0 - 1)) (.slice (some ⟨gb, 0, none⟩) (l.length + 1) c0) (by simp [Act.eval, Act.put]) (by simp [Act.eval, Act.put]) HC1.out ?_)
  go_wp2
  go_ret
  exact ⟨_, rfl, HE.out.1, HE.out.2⟩
end Go.Proofs.Ytldmidoemcdaaaa.VRoom
