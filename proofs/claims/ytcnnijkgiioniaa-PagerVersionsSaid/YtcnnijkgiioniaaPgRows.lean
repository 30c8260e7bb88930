/-
  pager.Rows, walked.
-/
import Derived.Test.YtcnnijkgiioniaaProg
import Derived.Test.YtcnnijkgiioniaaCmp
import Derived.Test.YtcnnijkgiioniaaIdxV
import Derived.Test.YtcnnijkgiioniaaPgRowI
import Derived.Test.YtcnnijkgiioniaaPx0
import Derived.Test.YtcnnijkgiioniaaPx3
import Derived.Test.YtcnnijkgiioniaaStrIndex
import Derived.Test.YtcnnijkgiioniaaV0
set_option linter.unusedVariables false
set_option linter.unusedSimpArgs false
namespace Go.Proofs.Ytcnnijkgiioniaa.PgRows
open Go.RowKit Go.Proofs.Ytcnnijkgiioniaa.P Go.Proofs.YtcnnijkgiioniaaW.PrintWords Go.Proofs.YtcnnijkgiioniaaW.PrintLast Go.Proofs.YtcnnijkgiioniaaW.PrintMore
attribute [local go_sem] max2_int min2_int max_two min_two max_three min_three max_four min_four

/-- Where the row of a key and an ID lies. -/
def rowAt (l : List S65) (key : ByteArray) (id : Int) : Option Int := some (PgRowI.idx (PgRowI.has key id) l)
theorem rowAt_calls (A : Option Addr) (c : Nat) (l : List S65) (b7 b8 : Nat) (key : ByteArray) (id r : Int) (w : World) (hr : Kd.C k65 w A l.length l) (hc7 : w.cell? ⟨b7, 0, none⟩ = some (.string key)) (hc8 : w.cell? ⟨b8, 0, none⟩ = some (.int .u64 id)) (h : rowAt l key id = some r) :
    Calls Try.prog 38 #[.slice A l.length c, .func (.func 39) #[] #[.pointer (some ⟨b7, 0, none⟩), .pointer (some ⟨b8, 0, none⟩)]] w fun e w' => e = .returned (.int .i64 r) ∧ Below w.heap.size w w' := by
  obtain rfl := Option.some.inj h
  exact PgRowI.rows_index A c l b7 b8 key id w hr hc7 hc8
theorem cut_full {P : Program} (t e : TypeId) (kh : IntKind) {i : TypeInfo} (ht : P.underlying t = some (.slice e)) (hi : P.info? e = some i) (A : Option Addr) (n c : Nat) (j : Int) (h0 : 0 ≤ j) (hm : j ≤ n) (hc : n ≤ c) :
    ∀ W : World, (Instr.slice t (.slice A n c) none (some (.int kh j)) (some (.int kh j))).run P W = .ok (.slice A j.toNat j.toNat) W := by
  intro W
  have hel : P.elem t = e := by simp [Program.elem, ht]
  have hu : P.underlying t = some (.slice (P.elem t)) := by rw [hel]; exact ht
  have ha : (A.map fun x => x.add 0) = A := by cases A <;> simp [Addr.add]
  rw [run_slice_hm W t A n c hu kh kh j j h0 (Int.le_refl _) (by omega), hel]
  simp [sizeOf, typeInfo, hi, sliced, Result.andThen, ha]
theorem fin_ {w0_ w W : World} {v : Value} {xs : List S65} (hbw : Below w0_.heap.size w0_ w) (hq : Kd.Q k65 65 W w.heap.size (fun _ => True) v xs) (hb : Below w.heap.size w W) :
    Kd.V k65 65 W w0_.heap.size (fun k_ => w0_.heap.size ≤ k_) v xs ∧ Below w0_.heap.size w0_ W :=
  ⟨Kd.Q_V (Kd.Q_mono (Kd.Q_bound hq) (fun k hk => Nat.le_trans hbw.size hk.2.1)), below_step hbw hb⟩
theorem fin3_ {w0_ w W : World} {A : Option Addr} {m c : Nat} {xs : List S65} (hbw : Below w0_.heap.size w0_ w) (hq : Kd.Q k65 65 W w.heap.size (fun _ => True) (.slice A m c) xs) (hb : Below w.heap.size w W) :
    Kd.V k65 65 W w0_.heap.size (fun k_ => w0_.heap.size ≤ k_) (.slice A m m) xs ∧ Below w0_.heap.size w0_ W := by
  have h := (fin_ hbw hq hb).1
  obtain ⟨h1, h2, h3⟩ := Kd.V_at h
  subst h1
  exact ⟨Kd.V_mk (Nat.le_refl _) h3, below_step hbw hb⟩

mutual
def rw7.l0 : Nat → ByteArray → Int → ByteArray → Int → List (S65) → List (S50) → Int → Int → Option ((List (S65)) × Bool × Int)
  | 0, _, _, _, _, _, _, _, _ => none
  | k + 1, x1, x4, x7, x8, x13, x25, x26, x27 => if x27 < x26 then (if 0 ≤ x27 then (if x27 < (x25.length : Int) then (rw7.l1 k x1 x4 x7 x8 x13 x25 x26 x27 ((rd_T50 x25 x27).f1) (((rd_T50 x25 x27).f1).length : Int) 0 ((rd_T50 x25 x27).f0) ((rd_T50 x25 x27).f1)) else (none)) else (none)) else (if x7.toList = ([] : List UInt8) then (rw7.j2 k x4 x13) else ((rowAt x13 x7 x8).bind fun t198 => (if t198 < 0 then (some (([] : List (S65)), false, 4)) else (if 0 ≤ (wrap64 (t198 + 1)) then (if (wrap64 (t198 + 1)) ≤ (x13.length : Int) then (rw7.j2 k x4 (x13.drop ((wrap64 (t198 + 1)) : Int).toNat)) else (none)) else (none)))))
def rw7.l1 : Nat → ByteArray → Int → ByteArray → Int → List (S65) → List (S50) → Int → Int → List (S52) → Int → Int → ByteArray → List (S52) → Option ((List (S65)) × Bool × Int)
  | 0, _, _, _, _, _, _, _, _, _, _, _, _, _ => none
  | k + 1, x1, x4, x7, x8, x13, x25, x26, x27, x32, x33, x34, x192000, x192001 => if x34 < x33 then (if 0 ≤ x34 then (if x34 < (x32.length : Int) then ((name_Under.f x192000 x1).bind fun t194 => (if t194 = true then (if x13.length < 3518437208883 then (rw7.l1 k x1 x4 x7 x8 (x13 ++ [(⟨x192000, (rd_T52 x32 x34).f0, (x34 == 0), (rd_T52 x32 x34).f2, (((rd_T52 x32 x34).f1).size : Int)⟩ : S65)]) x25 x26 x27 x32 x33 (wrap64 (x34 + 1)) x192000 x192001) else (none)) else (rw7.l1 k x1 x4 x7 x8 x13 x25 x26 x27 x32 x33 (wrap64 (x34 + 1)) x192000 x192001))) else (none)) else (none)) else (rw7.l0 k x1 x4 x7 x8 x13 x25 x26 (wrap64 (x27 + 1)))
def rw7.j2 : Nat → Int → List (S65) → Option ((List (S65)) × Bool × Int)
  | 0, _, _ => none
  | k + 1, x4, x13 => if (x13.length : Int) > x4 then (if 0 ≤ x4 then (if x4 ≤ (x13.length : Int) then (some ((x13.take (x4 : Int).toNat), true, 0)) else (none)) else (none)) else (some (x13, false, 0))
end
def rw7.f (k : Nat) (l0 : List (S50)) (a1 : ByteArray) (a2 : ByteArray) (a3 : Int) (a4 : Int) : Option ((List (S65)) × Bool × Int) := (pager_good.f k l0 a1 a2 a4).bind fun t189 => (if t189 = true then (rw7.l0 k a1 a4 a2 a3 ([] : List (S65)) l0 (l0.length : Int) 0) else (some (([] : List (S65)), false, 1)))
theorem rw7.mono_l : ∀ k, (∀ y0 y1 y2 y3 y4 y5 y6 y7, LeO (rw7.l0 k y0 y1 y2 y3 y4 y5 y6 y7) (rw7.l0 (k + 1) y0 y1 y2 y3 y4 y5 y6 y7)) ∧ (∀ y0 y1 y2 y3 y4 y5 y6 y7 y8 y9 y10 y11 y12, LeO (rw7.l1 k y0 y1 y2 y3 y4 y5 y6 y7 y8 y9 y10 y11 y12) (rw7.l1 (k + 1) y0 y1 y2 y3 y4 y5 y6 y7 y8 y9 y10 y11 y12)) ∧ (∀ y0 y1, LeO (rw7.j2 k y0 y1) (rw7.j2 (k + 1) y0 y1))
  | 0 => ⟨fun _ _ _ _ _ _ _ _ r h => by simp [rw7.l0] at h, fun _ _ _ _ _ _ _ _ _ _ _ _ _ r h => by simp [rw7.l1] at h, fun _ _ r h => by simp [rw7.j2] at h⟩
  | k + 1 => by
    obtain ⟨ih0, ih1, ih2⟩ := rw7.mono_l k
    refine ⟨?_, ?_, ?_⟩
    · intro y0 y1 y2 y3 y4 y5 y6 y7
      unfold rw7.l0
      repeat' first
      | (with_reducible exact ih0 _ _ _ _ _ _ _ _)
      | (with_reducible exact ih1 _ _ _ _ _ _ _ _ _ _ _ _ _)
      | (with_reducible exact ih2 _ _)
      | (with_reducible exact pager_good.mono _ _ _ _ _)
      | (with_reducible exact LeO.refl _)
      | (with_reducible exact LeO.none _)
      | (with_reducible refine LeO.ite ?_ ?_)
      | (with_reducible refine LeO.bind ?_ (fun _ => ?_))
      | exact ih0 _ _ _ _ _ _ _ _
      | exact ih1 _ _ _ _ _ _ _ _ _ _ _ _ _
      | exact ih2 _ _
      | exact pager_good.mono _ _ _ _ _
      | exact LeO.none _
      | refine LeO.ite ?_ ?_
      | refine LeO.bind ?_ (fun _ => ?_)
    · intro y0 y1 y2 y3 y4 y5 y6 y7 y8 y9 y10 y11 y12
      unfold rw7.l1
      repeat' first
      | (with_reducible exact ih0 _ _ _ _ _ _ _ _)
      | (with_reducible exact ih1 _ _ _ _ _ _ _ _ _ _ _ _ _)
      | (with_reducible exact ih2 _ _)
      | (with_reducible exact pager_good.mono _ _ _ _ _)
      | (with_reducible exact LeO.refl _)
      | (with_reducible exact LeO.none _)
      | (with_reducible refine LeO.ite ?_ ?_)
      | (with_reducible refine LeO.bind ?_ (fun _ => ?_))
      | exact ih0 _ _ _ _ _ _ _ _
      | exact ih1 _ _ _ _ _ _ _ _ _ _ _ _ _
      | exact ih2 _ _
      | exact pager_good.mono _ _ _ _ _
      | exact LeO.none _
      | refine LeO.ite ?_ ?_
      | refine LeO.bind ?_ (fun _ => ?_)
    · intro y0 y1
      unfold rw7.j2
      repeat' first
      | (with_reducible exact ih0 _ _ _ _ _ _ _ _)
      | (with_reducible exact ih1 _ _ _ _ _ _ _ _ _ _ _ _ _)
      | (with_reducible exact ih2 _ _)
      | (with_reducible exact pager_good.mono _ _ _ _ _)
      | (with_reducible exact LeO.refl _)
      | (with_reducible exact LeO.none _)
      | (with_reducible refine LeO.ite ?_ ?_)
      | (with_reducible refine LeO.bind ?_ (fun _ => ?_))
      | exact ih0 _ _ _ _ _ _ _ _
      | exact ih1 _ _ _ _ _ _ _ _ _ _ _ _ _
      | exact ih2 _ _
      | exact pager_good.mono _ _ _ _ _
      | exact LeO.none _
      | refine LeO.ite ?_ ?_
      | refine LeO.bind ?_ (fun _ => ?_)
theorem rw7.mono : ∀ a0 a1 a2 a3 a4 k, LeO (rw7.f k a0 a1 a2 a3 a4) (rw7.f (k + 1) a0 a1 a2 a3 a4) := by
  intro a0 a1 a2 a3 a4 k
  obtain ⟨ih0, ih1, ih2⟩ := rw7.mono_l k
  unfold rw7.f
  repeat' first
      | (with_reducible exact ih0 _ _ _ _ _ _ _ _)
      | (with_reducible exact ih1 _ _ _ _ _ _ _ _ _ _ _ _ _)
      | (with_reducible exact ih2 _ _)
      | (with_reducible exact pager_good.mono _ _ _ _ _)
      | (with_reducible exact LeO.refl _)
      | (with_reducible exact LeO.none _)
      | (with_reducible refine LeO.ite ?_ ?_)
      | (with_reducible refine LeO.bind ?_ (fun _ => ?_))
      | exact ih0 _ _ _ _ _ _ _ _
      | exact ih1 _ _ _ _ _ _ _ _ _ _ _ _ _
      | exact ih2 _ _
      | exact pager_good.mono _ _ _ _ _
      | exact LeO.none _
      | refine LeO.ite ?_ ?_
      | refine LeO.bind ?_ (fun _ => ?_)
set_option maxHeartbeats 8000000 in
set_option maxRecDepth 100000 in
theorem rw7.calls (k : Nat) (A0 : Option Addr) (c0 : Nat) (l0 : List (S50)) (a1 : ByteArray) (a2 : ByteArray) (a3 : Int) (a4 : Int) (r1 : List (S65)) (r2 : Bool) (r3 : Int) (w0_ : World) (hr0 : Kd.C k50 w0_ A0 l0.length l0) (hc0 : l0.length ≤ c0) (h : rw7.f k l0 a1 a2 a3 a4 = some (r1, r2, r3)) :
  Calls Try.prog 22 #[.slice A0 l0.length c0, .string a1, .string a2, .int .u64 a3, .int .i64 a4] w0_ fun e w' => ∃ v0_ : Value, e = .returned (.tuple #[v0_, .bool r2, .int .i64 r3]) ∧ Kd.V k65 65 w' w0_.heap.size (fun k_ => w0_.heap.size ≤ k_) v0_ r1 ∧ Below w0_.heap.size w0_ w' := by
 have hu50 := Try.underlying50
 have hu52 := Try.underlying52
 have hu65 := Try.underlying65
 have hbw := below_alloc (below_alloc (Below.refl w0_.heap.size w0_) (Obj.cells #[.string a2] 9)) (Obj.cells #[.int .u64 a3] 23)
 have hk7 : ((w0_.alloc (Obj.cells #[.string a2] 9)).alloc (Obj.cells #[.int .u64 a3] 23)).cell? ⟨w0_.heap.size, 0, none⟩ = some (.string a2) := (blk_cell (blk_alloc (blk_new w0_ (Obj.cells #[.string a2] 9)) _) 0).trans rfl
 have hk8 : ((w0_.alloc (Obj.cells #[.string a2] 9)).alloc (Obj.cells #[.int .u64 a3] 23)).cell? ⟨w0_.heap.size + 1, 0, none⟩ = some (.int .u64 a3) := by
  have h8 := blk_new (w0_.alloc (Obj.cells #[.string a2] 9)) (Obj.cells #[.int .u64 a3] 23)
  rw [World.size_alloc] at h8
  exact (blk_cell h8 0).trans rfl
 have hr := Kd.C_below hr0 hbw
 clear hr0
 go_enter Try.func22, Try.ntmps22
 go_upto_region 1 with fail
 generalize ((w0_.alloc (Obj.cells #[.string a2] 9)).alloc (Obj.cells #[.int .u64 a3] 23)) = w at hbw hk7 hk8 hr ⊢
 have HBW := Aside0.mk hbw
 have HK7 := Aside0.mk hk7
 have HK8 := Aside0.mk hk8
 have HR0 := Aside0.mk hr
 have HC0 := Aside0.mk hc0
 clear hr hc0 hbw hk8
 have HB := Aside0.mk (Below.refl w.heap.size w)
 have H : ((pager_good.f k l0 a1 a2 a4).bind fun t189 => (if t189 = true then (rw7.l0 k a1 a4 a2 a3 ([] : List (S65)) l0 (l0.length : Int) 0) else (some (([] : List (S65)), false, 1)))) = some (r1, r2, r3) := h
 clear h
 replace H := Option.bind_eq_some_iff.mp H
 obtain ⟨t189, A60, H⟩ := H
 replace H : (if t189 = true then (rw7.l0 k a1 a4 a2 a3 ([] : List (S65)) l0 (l0.length : Int) 0) else (some (([] : List (S65)), false, 1))) = some (r1, r2, r3) := H
 have A6 := Aside0.mk A60
 clear A60
 by_cases c7 : t189 = true
 ·subst c7
  have H1 : (rw7.l0 k a1 a4 a2 a3 ([] : List (S65)) l0 (l0.length : Int) 0) = some (r1, r2, r3) := by rw [if_pos rfl] at H; exact H
  clear H
  have H := H1
  clear H1
  have H' := Aside0.mk H
  clear H
  go_wp2_with (first | ((with_reducible refine gate_callee (f := 26) rfl ?_); refine goesL_ (some 23) rfl rfl Try.func26 (by kernel_rfl) rfl #[.slice A0 l0.length c0, .string a1, .string a2, .int .i64 a4] rfl (by (try simp only [List.map_toArray, List.map_cons, List.map_nil]); first | done | rfl | (simp only [List.length_drop, List.length_take]; rfl)) ?_; (with_reducible refine (pager_good.calls k _ _ l0 a1 a2 a4 true _ ?side1 ?side2 A6.out).mono ?_); (case side1 => repeat (first | exact HR0.out | (with_reducible refine Kd.C_alloc ?_ _) | (with_reducible refine Kd.C_drewN ?_ _) | (with_reducible refine Kd.C_drew ?_))); (case side2 => exact HC0.out); rintro e w8 ⟨rfl, hb⟩; refine ⟨_, rfl, ?_⟩; have n0_ := Aside0.mk (below_step (by repeat (first | (with_reducible first | exact HB.out | apply below_alloc | apply pw_below_drewN | apply below_drew1) | exact HB.out)) hb); clear HB; have HB := n0_; clear n0_; (try clear hb); (try clear hb2); (try clear hk); (try clear hi)))
  go_loopg [13, 27] k (fun kq v13 v27 w' => ∃ (x13_1 : List (S65)) (x27_1 : Int), v27 = .int .i64 x27_1 ∧ Aside0 (rw7.l0 kq a1 a4 a2 a3 x13_1 l0 (l0.length : Int) x27_1 = some (r1, r2, r3)) ∧ Aside0 (kq ≤ k) ∧ Aside0 (Kd.Q k65 65 w' w.heap.size (fun _ => True) v13 x13_1) ∧ Aside0 (Below w.heap.size w w'))
  case atStart => exact ⟨(([] : List (S65))), (0), (by first | rfl | (simp; done) | (simp [*]; done)), H', ⟨Nat.le_refl _⟩, ⟨Kd.Q_of_R (by first | exact Kd.R_nil _ _ _ _ _ | exact Kd.N_nil _ _ _ _ _ | exact Kd.V_nil _ _ _ _ _ | exact Kd.Q_nil _ _ _ _ _ | exact Kd.S_nil _ _ _ _ _)⟩, ⟨by repeat (first | (with_reducible first | exact HB.out | apply below_alloc | apply pw_below_drewN | apply below_drew1) | exact HB.out)⟩⟩
  case round =>
   clear H'
   try clear c2
   try clear p2
   try clear c7
   obtain ⟨x13_1, x27_1, rfl, HA, HK1, HO_13, HB⟩ := hrel
   cases gk with
   | zero => exact absurd HA.out (by simp [rw7.l0])
   | succ k1 =>
    have H := HA.out
    clear HA
    simp only [rw7.l0] at H
    by_cases c9 : x27_1 < (l0.length : Int)
    ·rw [if_pos c9] at H
     have c9b0 : decide (x27_1 < (l0.length : Int)) = true := decide_eq_true c9
     clear c9
     by_cases c10 : 0 ≤ x27_1
     ·rw [if_pos c10] at H
      have c10b0 : decide (0 ≤ x27_1) = true := decide_eq_true c10
      clear c10
      by_cases c11 : x27_1 < (l0.length : Int)
      ·rw [if_pos c11] at H
       have c11b0 : decide (x27_1 < (l0.length : Int)) = true := decide_eq_true c11
       clear c11
       have H' := Aside0.mk H
       clear H
       have p190 : 0 ≤ (x27_1 : Int) := of_decide_eq_true (by first | (with_reducible assumption) | assumption)
       have q190 : x27_1 < (l0.length : Int) := of_decide_eq_true (by first | (with_reducible assumption) | assumption)
       obtain ⟨ad190, A190_1, c190_1, e190, hx190_0, hx190_1, hl190_1, hi190_1⟩ := at_T50 HR0.out x27_1 p190 q190
       cases e190
       replace hx190_0 := (HB.out.cell (World.block_lt_of_cell? w _ hx190_0)).trans hx190_0
       replace hx190_1 := (HB.out.cell (World.block_lt_of_cell? w _ hx190_1)).trans hx190_1
       have HR190_1 := Aside0.mk hi190_1
       have HC190_1 := Aside0.mk hl190_1
       clear hi190_1 hl190_1
       replace p190 := eq_true p190
       replace q190 := eq_true q190
       go_wp2_with (first | ((with_reducible refine gate_dst (N := 15) rfl ?_); refine box_event ?hg (N := 15) ?hd (cs := #[.string (⟨#[]⟩ : ByteArray), .slice none 0 0]) (t := 50) ?hr ?_; (case hd => rfl); (case hg => rfl); (case hr => first | (go_simp; done) | (go_simp; rfl)); intro gb191 hg w12 hbox hb; have n0_ := Aside0.mk (Kd.Q_below (by (with_reducible repeat (first | apply Kd.Q_alloc | apply Kd.Q_drewN | apply Kd.Q_drew)); exact HO_13.out) hb); have n1_ := Aside0.mk (below_step (by repeat (first | (with_reducible first | exact HB.out | apply below_alloc | apply pw_below_drewN | apply below_drew1) | exact HB.out)) hb); have n2_ := Aside0.mk (hbox); have n3_ := Aside0.mk ((by rw [hg]; exact (below_size (by repeat (first | (with_reducible first | exact HB.out | apply below_alloc | apply pw_below_drewN | apply below_drew1) | exact HB.out))) : w.heap.size ≤ gb191)); have n4_ := Aside0.mk ((by rw [hg]; exact (below_size (by repeat (first | (with_reducible first | exact HB.out | apply below_alloc | apply pw_below_drewN | apply below_drew1) | exact HB.out))) : w.heap.size ≤ gb191)); clear HO_13; clear HB; have HO_13 := n0_; have HB := n1_; have BK191 := n2_; have GW191 := n3_; have GE191 := n4_; clear n0_ n1_ n2_ n3_ n4_; clear hb hbox hg; have hcz13_0 : w12.cell? ⟨gb191, 0, none⟩ = some (.string (⟨#[]⟩ : ByteArray)) := (blk_cell BK191.out 0).trans rfl; have hcz13_1 : w12.cell? ⟨gb191, 1, none⟩ = some (.slice none 0 0) := (blk_cell BK191.out 1).trans rfl; have hfz13_0 := blk_frozen BK191.out 0; have hfz13_1 := blk_frozen BK191.out 1))
       go_loopg [13, 34] k1 (fun kq v13 v34 w' => ∃ (x13_2 : List (S65)) (x34_2 : Int), v34 = .int .i64 x34_2 ∧ Aside0 (rw7.l1 kq a1 a4 a2 a3 x13_2 l0 (l0.length : Int) x27_1 ((rd_T50 l0 x27_1).f1) (((rd_T50 l0 x27_1).f1).length : Int) x34_2 ((rd_T50 l0 x27_1).f0) ((rd_T50 l0 x27_1).f1) = some (r1, r2, r3)) ∧ Aside0 (kq ≤ k1) ∧ Aside0 (Kd.Q k65 65 w' w.heap.size (fun _ => True) v13 x13_2) ∧ Aside0 (w'.heap[gb191]? = some (.cells #[.string ((rd_T50 l0 x27_1).f0), (.slice A190_1 ((rd_T50 l0 x27_1).f1).length c190_1)] 50 (0, 0))) ∧ Aside0 (Below w.heap.size w w'))
       case atStart => exact ⟨(x13_1), (0), (by first | rfl | (simp; done) | (simp [*]; done)), H', ⟨Nat.le_refl _⟩, ⟨by (with_reducible repeat (first | apply Kd.Q_alloc | apply Kd.Q_drewN | apply Kd.Q_drew)); exact Kd.Q_mono (Kd.Q_far (p := ⟨gb191, 1, none⟩) (Kd.Q_far (p := ⟨gb191, 0, none⟩) (Kd.Q_types HO_13.out BK191.out (by decide)) (fun _ hk => hk.2) (.string ((rd_T50 l0 x27_1).f0))) (fun _ hk => hk.2) (.slice A190_1 ((rd_T50 l0 x27_1).f1).length c190_1)) (fun _ hk => trivial)⟩, ⟨by (with_reducible repeat (first | refine blk_drewN ?_ _ | refine blk_drew ?_ | refine blk_alloc ?_ _)); refine blk_put (cs := #[.string ((rd_T50 l0 x27_1).f0), .slice none 0 0]) ?_ 1 _ rfl; (with_reducible repeat (first | refine blk_drewN ?_ _ | refine blk_drew ?_ | refine blk_alloc ?_ _)); refine blk_put (cs := #[.string (⟨#[]⟩ : ByteArray), .slice none 0 0]) ?_ 0 _ rfl; (with_reducible repeat (first | refine blk_drewN ?_ _ | refine blk_drew ?_ | refine blk_alloc ?_ _)); exact BK191.out⟩, ⟨by repeat (first | (with_reducible first | exact HB.out | apply below_alloc | apply pw_below_drewN | apply below_drew1 | refine below_set ?_ GE191.out) | exact HB.out)⟩⟩
       case round =>
        clear H'
        try clear c1
        try clear p1
        try clear q1
        try clear hx1
        try clear c2
        try clear p2
        try clear c7
        try clear c9
        try clear c9b0
        try clear c10
        try clear c10b0
        try clear c11
        try clear c11b0
        try clear hcz13_0
        try clear hcz13_1
        try clear hfz13_0
        try clear hfz13_1
        try clear hx190_0
        try clear hx190_1
        try clear p190
        try clear p2
        try clear q190
        obtain ⟨x13_2, x34_2, rfl, HA, HK2, HO_13, BK191, HB⟩ := hrel
        cases gk with
        | zero => exact absurd HA.out (by simp [rw7.l1])
        | succ k2 =>
         have H := HA.out
         clear HA
         simp only [rw7.l1] at H
         by_cases c14 : x34_2 < (((rd_T50 l0 x27_1).f1).length : Int)
         ·rw [if_pos c14] at H
          have c14b0 : decide (x34_2 < (((rd_T50 l0 x27_1).f1).length : Int)) = true := decide_eq_true c14
          clear c14
          by_cases c15 : 0 ≤ x34_2
          ·rw [if_pos c15] at H
           have c15b0 : decide (0 ≤ x34_2) = true := decide_eq_true c15
           clear c15
           by_cases c16 : x34_2 < (((rd_T50 l0 x27_1).f1).length : Int)
           ·rw [if_pos c16] at H
            have c16b0 : decide (x34_2 < (((rd_T50 l0 x27_1).f1).length : Int)) = true := decide_eq_true c16
            clear c16
            replace H := Option.bind_eq_some_iff.mp H
            obtain ⟨t194, A170, H⟩ := H
            replace H : (if t194 = true then (if x13_2.length < 3518437208883 then (rw7.l1 k2 a1 a4 a2 a3 (x13_2 ++ [(⟨((rd_T50 l0 x27_1).f0), (rd_T52 ((rd_T50 l0 x27_1).f1) x34_2).f0, (x34_2 == 0), (rd_T52 ((rd_T50 l0 x27_1).f1) x34_2).f2, (((rd_T52 ((rd_T50 l0 x27_1).f1) x34_2).f1).size : Int)⟩ : S65)]) l0 (l0.length : Int) x27_1 ((rd_T50 l0 x27_1).f1) (((rd_T50 l0 x27_1).f1).length : Int) (wrap64 (x34_2 + 1)) ((rd_T50 l0 x27_1).f0) ((rd_T50 l0 x27_1).f1)) else (none)) else (rw7.l1 k2 a1 a4 a2 a3 x13_2 l0 (l0.length : Int) x27_1 ((rd_T50 l0 x27_1).f1) (((rd_T50 l0 x27_1).f1).length : Int) (wrap64 (x34_2 + 1)) ((rd_T50 l0 x27_1).f0) ((rd_T50 l0 x27_1).f1))) = some (r1, r2, r3) := H
            have A17 := Aside0.mk A170
            clear A170
            by_cases c18 : t194 = true
            ·subst c18
             have H1 : (if x13_2.length < 3518437208883 then (rw7.l1 k2 a1 a4 a2 a3 (x13_2 ++ [(⟨((rd_T50 l0 x27_1).f0), (rd_T52 ((rd_T50 l0 x27_1).f1) x34_2).f0, (x34_2 == 0), (rd_T52 ((rd_T50 l0 x27_1).f1) x34_2).f2, (((rd_T52 ((rd_T50 l0 x27_1).f1) x34_2).f1).size : Int)⟩ : S65)]) l0 (l0.length : Int) x27_1 ((rd_T50 l0 x27_1).f1) (((rd_T50 l0 x27_1).f1).length : Int) (wrap64 (x34_2 + 1)) ((rd_T50 l0 x27_1).f0) ((rd_T50 l0 x27_1).f1)) else (none)) = some (r1, r2, r3) := by rw [if_pos rfl] at H; exact H
             clear H
             have H := H1
             clear H1
             by_cases c19 : x13_2.length < 3518437208883
             ·rw [if_pos c19] at H
              have LMc19 := Aside0.mk c19
              clear c19
              obtain ⟨y195, hy195⟩ : ∃ y_ : List (S65), y_ = (x13_2 ++ [(⟨((rd_T50 l0 x27_1).f0), (rd_T52 ((rd_T50 l0 x27_1).f1) x34_2).f0, (x34_2 == 0), (rd_T52 ((rd_T50 l0 x27_1).f1) x34_2).f2, (((rd_T52 ((rd_T50 l0 x27_1).f1) x34_2).f1).size : Int)⟩ : S65)]) := ⟨_, rfl⟩
              replace H : (rw7.l1 k2 a1 a4 a2 a3 y195 l0 (l0.length : Int) x27_1 ((rd_T50 l0 x27_1).f1) (((rd_T50 l0 x27_1).f1).length : Int) (wrap64 (x34_2 + 1)) ((rd_T50 l0 x27_1).f0) ((rd_T50 l0 x27_1).f1)) = some (r1, r2, r3) := by first | (rw [hy195]; with_reducible exact H) | (have H2_ := (Option.bind_some _ _).symm.trans H; rw [hy195]; with_reducible exact H2_) | (have H2_ := (Option.bind_some _ _).symm.trans H; with_reducible exact H2_) | with_reducible exact H | (rw [hy195]; exact H) | exact H
              have Ny195 := Aside0.mk hy195
              clear hy195
              have H' := Aside0.mk H
              clear H
              have p192 : 0 ≤ (x34_2 : Int) := of_decide_eq_true (by first | (with_reducible assumption) | assumption)
              have q192 : x34_2 < (((rd_T50 l0 x27_1).f1).length : Int) := of_decide_eq_true (by first | (with_reducible assumption) | assumption)
              obtain ⟨ad192, e192, hx192_0, hx192_1, hx192_2, hx192_3⟩ := at_T52 HR190_1.out x34_2 p192 q192
              cases e192
              replace hx192_0 := (HB.out.cell (World.block_lt_of_cell? w _ hx192_0)).trans hx192_0
              replace hx192_1 := (HB.out.cell (World.block_lt_of_cell? w _ hx192_1)).trans hx192_1
              replace hx192_2 := (HB.out.cell (World.block_lt_of_cell? w _ hx192_2)).trans hx192_2
              replace hx192_3 := (HB.out.cell (World.block_lt_of_cell? w _ hx192_3)).trans hx192_3
              replace p192 := eq_true p192
              replace q192 := eq_true q192
              go_wp2_with (first | ((with_reducible refine gate_dst (N := 17) rfl ?_); refine box_event ?hg (N := 17) ?hd (cs := #[.int .u64 0, .string (⟨#[]⟩ : ByteArray), .bool false, .int .i64 0]) (t := 52) ?hr ?_; (case hd => rfl); (case hg => rfl); (case hr => first | (go_simp; done) | (go_simp; rfl)); intro gb193 hg w20 hbox hb; have n0_ := Aside0.mk (Kd.Q_below (by (with_reducible repeat (first | apply Kd.Q_alloc | apply Kd.Q_drewN | apply Kd.Q_drew)); exact HO_13.out) hb); have n1_ := Aside0.mk (blk_below (g := gb191) (o := .cells #[.string ((rd_T50 l0 x27_1).f0), .slice (some ad192) ((rd_T50 l0 x27_1).f1).length c190_1] 50 (0, 0)) (by (with_reducible repeat (first | refine blk_drewN ?_ _ | refine blk_drew ?_ | refine blk_alloc ?_ _)); exact BK191.out) hb); have n2_ := Aside0.mk (below_step (by repeat (first | (with_reducible first | exact HB.out | apply below_alloc | apply pw_below_drewN | apply below_drew1 | refine below_set ?_ GE191.out) | exact HB.out)) hb); have n3_ := Aside0.mk (hbox); have n4_ := Aside0.mk ((by rw [hg]; exact (below_size (by repeat (first | (with_reducible first | exact HB.out | apply below_alloc | apply pw_below_drewN | apply below_drew1 | refine below_set ?_ GE191.out) | exact HB.out))) : w.heap.size ≤ gb193)); have n5_ := Aside0.mk ((by rw [hg]; exact (below_size (by repeat (first | (with_reducible first | exact HB.out | apply below_alloc | apply pw_below_drewN | apply below_drew1 | refine below_set ?_ GE191.out) | exact HB.out))) : w.heap.size ≤ gb193)); have n6_ := Aside0.mk ((by rw [hg]; exact Nat.ne_of_lt (blk_lt (g := gb191) (o := .cells #[.string ((rd_T50 l0 x27_1).f0), .slice (some ad192) ((rd_T50 l0 x27_1).f1).length c190_1] 50 (0, 0)) (by (with_reducible repeat (first | refine blk_drewN ?_ _ | refine blk_drew ?_ | refine blk_alloc ?_ _)); exact BK191.out)) : gb191 ≠ gb193)); have n7_ := Aside0.mk ((by rw [hg]; exact Nat.ne_of_gt (blk_lt (g := gb191) (o := .cells #[.string ((rd_T50 l0 x27_1).f0), .slice (some ad192) ((rd_T50 l0 x27_1).f1).length c190_1] 50 (0, 0)) (by (with_reducible repeat (first | refine blk_drewN ?_ _ | refine blk_drew ?_ | refine blk_alloc ?_ _)); exact BK191.out)) : gb193 ≠ gb191)); clear HO_13; clear BK191; clear HB; have HO_13 := n0_; have BK191 := n1_; have HB := n2_; have BK193 := n3_; have GW193 := n4_; have GE193 := n5_; have NB191_193 := n6_; have NB193_191 := n7_; clear n0_ n1_ n2_ n3_ n4_ n5_ n6_ n7_; clear hb hbox hg; have hnb21 := NB193_191.out; have hnc21 := NB191_193.out; have hcz22_0 : w20.cell? ⟨gb193, 0, none⟩ = some (.int .u64 0) := (blk_cell BK193.out 0).trans rfl; have hcz22_1 : w20.cell? ⟨gb193, 1, none⟩ = some (.string (⟨#[]⟩ : ByteArray)) := (blk_cell BK193.out 1).trans rfl; have hcz22_2 : w20.cell? ⟨gb193, 2, none⟩ = some (.bool false) := (blk_cell BK193.out 2).trans rfl; have hcz22_3 : w20.cell? ⟨gb193, 3, none⟩ = some (.int .i64 0) := (blk_cell BK193.out 3).trans rfl; have hfz22_0 := blk_frozen BK193.out 0; have hfz22_1 := blk_frozen BK193.out 1; have hfz22_2 := blk_frozen BK193.out 2; have hfz22_3 := blk_frozen BK193.out 3; have hcz23_0 : w20.cell? ⟨gb191, 0, none⟩ = some (.string ((rd_T50 l0 x27_1).f0)) := (blk_cell BK191.out 0).trans rfl; have hcz23_1 : w20.cell? ⟨gb191, 1, none⟩ = some (.slice (some ad192) ((rd_T50 l0 x27_1).f1).length c190_1) := (blk_cell BK191.out 1).trans rfl; have hfz23_0 := blk_frozen BK191.out 0; have hfz23_1 := blk_frozen BK191.out 1) | ((with_reducible refine gate_callee (f := 37) rfl ?_); refine goesL_ (some 42) rfl rfl Try.func37 (by kernel_rfl) rfl #[.string ((rd_T50 l0 x27_1).f0), .string a1] rfl (by (try simp only [List.map_toArray, List.map_cons, List.map_nil]); first | done | rfl | (simp only [List.length_drop, List.length_take]; rfl)) ?_; (with_reducible refine (name_Under.calls ((rd_T50 l0 x27_1).f0) a1 true _ A17.out).mono ?_); rintro e w' ⟨rfl, ⟨nd, rfl⟩⟩; refine ⟨_, rfl, ?_⟩) | ((with_reducible refine gate_builtin (b := .append) (xs := #[.tmp 43, .tmp 56]) rfl ?_); at_builtin; refine Kd.Q_append k65 (w0 := w) w.heap.size rfl (.tmp 43) (.tmp 56) 56 65 (.agg #[(.string ⟨#[]⟩), (.int .u64 0), (.bool false), (.bool false), (.int .i64 0)]) 40 rfl Try.underlying56 info65 rfl (by decide) (by omega) u13 x13_2 (⟨((rd_T50 l0 x27_1).f0), (rd_T52 ((rd_T50 l0 x27_1).f1) x34_2).f0, (x34_2 == 0), (rd_T52 ((rd_T50 l0 x27_1).f1) x34_2).f2, (((rd_T52 ((rd_T50 l0 x27_1).f1) x34_2).f1).size : Int)⟩ : S65) [.string ((rd_T50 l0 x27_1).f0), .int .u64 ((rd_T52 ((rd_T50 l0 x27_1).f1) x34_2).f0), .bool (x34_2 == 0), .bool ((rd_T52 ((rd_T50 l0 x27_1).f1) x34_2).f2), .int .i64 (((rd_T52 ((rd_T50 l0 x27_1).f1) x34_2).f1).size : Int)] (fun _ => True) (fun _ => False) rfl (by first | (go_simp; done) | (go_simp; rfl)) ?aP (fun _ hk => hk.elim) ?aF ?aO ?aB ?aS ?aL ?_; (case aP => exact k65_mkM _ _ _ (⟨((rd_T50 l0 x27_1).f0), (rd_T52 ((rd_T50 l0 x27_1).f1) x34_2).f0, (x34_2 == 0), (rd_T52 ((rd_T50 l0 x27_1).f1) x34_2).f2, (((rd_T52 ((rd_T50 l0 x27_1).f1) x34_2).f1).size : Int)⟩ : S65)); (case aB => exact (by repeat (first | (with_reducible first | exact HB.out | apply below_alloc | apply pw_below_drewN | apply below_drew1 | refine below_set ?_ GE191.out | refine below_set ?_ GE193.out) | exact HB.out))); (case aF => exact (fun _ _ => trivial)); (case aO => exact (by (with_reducible repeat (first | apply Kd.Q_alloc | apply Kd.Q_drewN | apply Kd.Q_drew)); exact Kd.Q_mono (Kd.Q_far (p := ⟨gb193, 3, none⟩) (Kd.Q_far (p := ⟨gb193, 2, none⟩) (Kd.Q_far (p := ⟨gb193, 1, none⟩) (Kd.Q_far (p := ⟨gb193, 0, none⟩) (Kd.Q_types HO_13.out BK193.out (by decide)) (fun _ hk => hk.2) (.int .u64 ((rd_T52 ((rd_T50 l0 x27_1).f1) x34_2).f0))) (fun _ hk => hk.2) (.string ((rd_T52 ((rd_T50 l0 x27_1).f1) x34_2).f1))) (fun _ hk => hk.2) (.bool ((rd_T52 ((rd_T50 l0 x27_1).f1) x34_2).f2))) (fun _ hk => hk.2) (.int .i64 ((rd_T52 ((rd_T50 l0 x27_1).f1) x34_2).f3))) (fun _ hk => trivial))); (case aS => exact (below_size (by repeat (first | (with_reducible first | exact HB.out | apply below_alloc | apply pw_below_drewN | apply below_drew1 | refine below_set ?_ GE191.out | refine below_set ?_ GE193.out) | exact HB.out)))); (case aL => have := LMc19.out; omega); intro v196 w24 ho hb hg hat; rw [← Ny195.out] at ho; have n0_ := Aside0.mk (blk_grown (g := gb191) (o := .cells #[.string ((rd_T50 l0 x27_1).f0), .slice (some ad192) ((rd_T50 l0 x27_1).f1).length c190_1] 50 (0, 0)) (by (with_reducible repeat (first | refine blk_drewN ?_ _ | refine blk_drew ?_ | refine blk_alloc ?_ _)); refine blk_far ?_ NB191_193.out _; (with_reducible repeat (first | refine blk_drewN ?_ _ | refine blk_drew ?_ | refine blk_alloc ?_ _)); refine blk_far ?_ NB191_193.out _; (with_reducible repeat (first | refine blk_drewN ?_ _ | refine blk_drew ?_ | refine blk_alloc ?_ _)); refine blk_far ?_ NB191_193.out _; (with_reducible repeat (first | refine blk_drewN ?_ _ | refine blk_drew ?_ | refine blk_alloc ?_ _)); refine blk_far ?_ NB191_193.out _; (with_reducible repeat (first | refine blk_drewN ?_ _ | refine blk_drew ?_ | refine blk_alloc ?_ _)); exact BK191.out) hg (Kd.Q_ne HO_13.out BK191.out (by decide))); have n1_ := Aside0.mk (blk_grown (g := gb193) (o := .cells #[.int .u64 ((rd_T52 ((rd_T50 l0 x27_1).f1) x34_2).f0), .string ((rd_T52 ((rd_T50 l0 x27_1).f1) x34_2).f1), .bool ((rd_T52 ((rd_T50 l0 x27_1).f1) x34_2).f2), .int .i64 ((rd_T52 ((rd_T50 l0 x27_1).f1) x34_2).f3)] 52 (0, 0)) (by (with_reducible repeat (first | refine blk_drewN ?_ _ | refine blk_drew ?_ | refine blk_alloc ?_ _)); refine blk_put (cs := #[.int .u64 ((rd_T52 ((rd_T50 l0 x27_1).f1) x34_2).f0), .string ((rd_T52 ((rd_T50 l0 x27_1).f1) x34_2).f1), .bool ((rd_T52 ((rd_T50 l0 x27_1).f1) x34_2).f2), .int .i64 0]) ?_ 3 _ rfl; (with_reducible repeat (first | refine blk_drewN ?_ _ | refine blk_drew ?_ | refine blk_alloc ?_ _)); refine blk_put (cs := #[.int .u64 ((rd_T52 ((rd_T50 l0 x27_1).f1) x34_2).f0), .string ((rd_T52 ((rd_T50 l0 x27_1).f1) x34_2).f1), .bool false, .int .i64 0]) ?_ 2 _ rfl; (with_reducible repeat (first | refine blk_drewN ?_ _ | refine blk_drew ?_ | refine blk_alloc ?_ _)); refine blk_put (cs := #[.int .u64 ((rd_T52 ((rd_T50 l0 x27_1).f1) x34_2).f0), .string (⟨#[]⟩ : ByteArray), .bool false, .int .i64 0]) ?_ 1 _ rfl; (with_reducible repeat (first | refine blk_drewN ?_ _ | refine blk_drew ?_ | refine blk_alloc ?_ _)); refine blk_put (cs := #[.int .u64 0, .string (⟨#[]⟩ : ByteArray), .bool false, .int .i64 0]) ?_ 0 _ rfl; (with_reducible repeat (first | refine blk_drewN ?_ _ | refine blk_drew ?_ | refine blk_alloc ?_ _)); exact BK193.out) hg (Kd.Q_ne HO_13.out BK193.out (by decide))); have n2_ := Aside0.mk (hb); have n3_ := Aside0.mk (ho); clear BK191; clear BK193; clear HB; clear HO_13; have BK191 := n0_; have BK193 := n1_; have HB := n2_; have HO197 := n3_; clear n0_ n1_ n2_ n3_; clear ho hb hg hat))
              go_roundg k2
              case measure => have := HK1.out; have := HK2.out; omega
              case rel => exact ⟨(y195), (wrap64 (x34_2 + 1)), (by first | rfl | (simp; done) | (simp [*]; done)), H', ⟨by have := HK1.out; have := HK2.out; omega⟩, ⟨by (with_reducible repeat (first | apply Kd.Q_alloc | apply Kd.Q_drewN | apply Kd.Q_drew)); exact HO197.out⟩, ⟨by (with_reducible repeat (first | refine blk_drewN ?_ _ | refine blk_drew ?_ | refine blk_alloc ?_ _)); exact BK191.out⟩, ⟨by repeat (first | (with_reducible first | exact HB.out | apply below_alloc | apply pw_below_drewN | apply below_drew1 | refine below_set ?_ GE191.out | refine below_set ?_ GE193.out) | exact HB.out)⟩⟩
             ·rw [if_neg c19] at H
              exact absurd H (by simp)
            ·replace c18 := Bool.eq_false_iff.mpr c18
             subst c18
             have H1 : (rw7.l1 k2 a1 a4 a2 a3 x13_2 l0 (l0.length : Int) x27_1 ((rd_T50 l0 x27_1).f1) (((rd_T50 l0 x27_1).f1).length : Int) (wrap64 (x34_2 + 1)) ((rd_T50 l0 x27_1).f0) ((rd_T50 l0 x27_1).f1)) = some (r1, r2, r3) := by rw [if_neg (show ¬ (false = true) by decide)] at H; exact H
             clear H
             have H := H1
             clear H1
             have H' := Aside0.mk H
             clear H
             have p192 : 0 ≤ (x34_2 : Int) := of_decide_eq_true (by first | (with_reducible assumption) | assumption)
             have q192 : x34_2 < (((rd_T50 l0 x27_1).f1).length : Int) := of_decide_eq_true (by first | (with_reducible assumption) | assumption)
             obtain ⟨ad192, e192, hx192_0, hx192_1, hx192_2, hx192_3⟩ := at_T52 HR190_1.out x34_2 p192 q192
             cases e192
             replace hx192_0 := (HB.out.cell (World.block_lt_of_cell? w _ hx192_0)).trans hx192_0
             replace hx192_1 := (HB.out.cell (World.block_lt_of_cell? w _ hx192_1)).trans hx192_1
             replace hx192_2 := (HB.out.cell (World.block_lt_of_cell? w _ hx192_2)).trans hx192_2
             replace hx192_3 := (HB.out.cell (World.block_lt_of_cell? w _ hx192_3)).trans hx192_3
             replace p192 := eq_true p192
             replace q192 := eq_true q192
             go_wp2_with (first | ((with_reducible refine gate_dst (N := 17) rfl ?_); refine box_event ?hg (N := 17) ?hd (cs := #[.int .u64 0, .string (⟨#[]⟩ : ByteArray), .bool false, .int .i64 0]) (t := 52) ?hr ?_; (case hd => rfl); (case hg => rfl); (case hr => first | (go_simp; done) | (go_simp; rfl)); intro gb193 hg w25 hbox hb; have n0_ := Aside0.mk (Kd.Q_below (by (with_reducible repeat (first | apply Kd.Q_alloc | apply Kd.Q_drewN | apply Kd.Q_drew)); exact HO_13.out) hb); have n1_ := Aside0.mk (blk_below (g := gb191) (o := .cells #[.string ((rd_T50 l0 x27_1).f0), .slice (some ad192) ((rd_T50 l0 x27_1).f1).length c190_1] 50 (0, 0)) (by (with_reducible repeat (first | refine blk_drewN ?_ _ | refine blk_drew ?_ | refine blk_alloc ?_ _)); exact BK191.out) hb); have n2_ := Aside0.mk (below_step (by repeat (first | (with_reducible first | exact HB.out | apply below_alloc | apply pw_below_drewN | apply below_drew1 | refine below_set ?_ GE191.out) | exact HB.out)) hb); have n3_ := Aside0.mk (hbox); have n4_ := Aside0.mk ((by rw [hg]; exact (below_size (by repeat (first | (with_reducible first | exact HB.out | apply below_alloc | apply pw_below_drewN | apply below_drew1 | refine below_set ?_ GE191.out) | exact HB.out))) : w.heap.size ≤ gb193)); have n5_ := Aside0.mk ((by rw [hg]; exact (below_size (by repeat (first | (with_reducible first | exact HB.out | apply below_alloc | apply pw_below_drewN | apply below_drew1 | refine below_set ?_ GE191.out) | exact HB.out))) : w.heap.size ≤ gb193)); have n6_ := Aside0.mk ((by rw [hg]; exact Nat.ne_of_lt (blk_lt (g := gb191) (o := .cells #[.string ((rd_T50 l0 x27_1).f0), .slice (some ad192) ((rd_T50 l0 x27_1).f1).length c190_1] 50 (0, 0)) (by (with_reducible repeat (first | refine blk_drewN ?_ _ | refine blk_drew ?_ | refine blk_alloc ?_ _)); exact BK191.out)) : gb191 ≠ gb193)); have n7_ := Aside0.mk ((by rw [hg]; exact Nat.ne_of_gt (blk_lt (g := gb191) (o := .cells #[.string ((rd_T50 l0 x27_1).f0), .slice (some ad192) ((rd_T50 l0 x27_1).f1).length c190_1] 50 (0, 0)) (by (with_reducible repeat (first | refine blk_drewN ?_ _ | refine blk_drew ?_ | refine blk_alloc ?_ _)); exact BK191.out)) : gb193 ≠ gb191)); clear HO_13; clear BK191; clear HB; have HO_13 := n0_; have BK191 := n1_; have HB := n2_; have BK193 := n3_; have GW193 := n4_; have GE193 := n5_; have NB191_193 := n6_; have NB193_191 := n7_; clear n0_ n1_ n2_ n3_ n4_ n5_ n6_ n7_; clear hb hbox hg; have hnb26 := NB193_191.out; have hnc26 := NB191_193.out; have hcz27_0 : w25.cell? ⟨gb193, 0, none⟩ = some (.int .u64 0) := (blk_cell BK193.out 0).trans rfl; have hcz27_1 : w25.cell? ⟨gb193, 1, none⟩ = some (.string (⟨#[]⟩ : ByteArray)) := (blk_cell BK193.out 1).trans rfl; have hcz27_2 : w25.cell? ⟨gb193, 2, none⟩ = some (.bool false) := (blk_cell BK193.out 2).trans rfl; have hcz27_3 : w25.cell? ⟨gb193, 3, none⟩ = some (.int .i64 0) := (blk_cell BK193.out 3).trans rfl; have hfz27_0 := blk_frozen BK193.out 0; have hfz27_1 := blk_frozen BK193.out 1; have hfz27_2 := blk_frozen BK193.out 2; have hfz27_3 := blk_frozen BK193.out 3; have hcz28_0 : w25.cell? ⟨gb191, 0, none⟩ = some (.string ((rd_T50 l0 x27_1).f0)) := (blk_cell BK191.out 0).trans rfl; have hcz28_1 : w25.cell? ⟨gb191, 1, none⟩ = some (.slice (some ad192) ((rd_T50 l0 x27_1).f1).length c190_1) := (blk_cell BK191.out 1).trans rfl; have hfz28_0 := blk_frozen BK191.out 0; have hfz28_1 := blk_frozen BK191.out 1) | ((with_reducible refine gate_callee (f := 37) rfl ?_); refine goesL_ (some 42) rfl rfl Try.func37 (by kernel_rfl) rfl #[.string ((rd_T50 l0 x27_1).f0), .string a1] rfl (by (try simp only [List.map_toArray, List.map_cons, List.map_nil]); first | done | rfl | (simp only [List.length_drop, List.length_take]; rfl)) ?_; (with_reducible refine (name_Under.calls ((rd_T50 l0 x27_1).f0) a1 false _ A17.out).mono ?_); rintro e w' ⟨rfl, ⟨nd, rfl⟩⟩; refine ⟨_, rfl, ?_⟩))
             go_roundg k2
             case measure => have := HK1.out; have := HK2.out; omega
             case rel => exact ⟨(x13_2), (wrap64 (x34_2 + 1)), (by first | rfl | (simp; done) | (simp [*]; done)), H', ⟨by have := HK1.out; have := HK2.out; omega⟩, ⟨by (with_reducible repeat (first | apply Kd.Q_alloc | apply Kd.Q_drewN | apply Kd.Q_drew)); exact Kd.Q_mono (Kd.Q_far (p := ⟨gb193, 3, none⟩) (Kd.Q_far (p := ⟨gb193, 2, none⟩) (Kd.Q_far (p := ⟨gb193, 1, none⟩) (Kd.Q_far (p := ⟨gb193, 0, none⟩) (Kd.Q_types HO_13.out BK193.out (by decide)) (fun _ hk => hk.2) (.int .u64 ((rd_T52 ((rd_T50 l0 x27_1).f1) x34_2).f0))) (fun _ hk => hk.2) (.string ((rd_T52 ((rd_T50 l0 x27_1).f1) x34_2).f1))) (fun _ hk => hk.2) (.bool ((rd_T52 ((rd_T50 l0 x27_1).f1) x34_2).f2))) (fun _ hk => hk.2) (.int .i64 ((rd_T52 ((rd_T50 l0 x27_1).f1) x34_2).f3))) (fun _ hk => trivial)⟩, ⟨by (with_reducible repeat (first | refine blk_drewN ?_ _ | refine blk_drew ?_ | refine blk_alloc ?_ _)); refine blk_far ?_ NB191_193.out _; (with_reducible repeat (first | refine blk_drewN ?_ _ | refine blk_drew ?_ | refine blk_alloc ?_ _)); refine blk_far ?_ NB191_193.out _; (with_reducible repeat (first | refine blk_drewN ?_ _ | refine blk_drew ?_ | refine blk_alloc ?_ _)); refine blk_far ?_ NB191_193.out _; (with_reducible repeat (first | refine blk_drewN ?_ _ | refine blk_drew ?_ | refine blk_alloc ?_ _)); refine blk_far ?_ NB191_193.out _; (with_reducible repeat (first | refine blk_drewN ?_ _ | refine blk_drew ?_ | refine blk_alloc ?_ _)); exact BK191.out⟩, ⟨by repeat (first | (with_reducible first | exact HB.out | apply below_alloc | apply pw_below_drewN | apply below_drew1 | refine below_set ?_ GE191.out | refine below_set ?_ GE193.out) | exact HB.out)⟩⟩
           ·rw [if_neg c16] at H
            exact absurd H (by simp)
          ·rw [if_neg c15] at H
           exact absurd H (by simp)
         ·rw [if_neg c14] at H
          have c14b0 : decide (x34_2 < (((rd_T50 l0 x27_1).f1).length : Int)) = false := decide_eq_false c14
          clear c14
          have H' := Aside0.mk H
          clear H
          go_wp2
          go_roundg k2
          case measure => have := HK1.out; have := HK2.out; omega
          case rel => exact ⟨(x13_2), (wrap64 (x27_1 + 1)), (by first | rfl | (simp; done) | (simp [*]; done)), H', ⟨by have := HK1.out; have := HK2.out; omega⟩, ⟨by (with_reducible repeat (first | apply Kd.Q_alloc | apply Kd.Q_drewN | apply Kd.Q_drew)); exact HO_13.out⟩, ⟨by repeat (first | (with_reducible first | exact HB.out | apply below_alloc | apply pw_below_drewN | apply below_drew1 | refine below_set ?_ GE191.out) | exact HB.out)⟩⟩
      ·rw [if_neg c11] at H
       exact absurd H (by simp)
     ·rw [if_neg c10] at H
      exact absurd H (by simp)
    ·rw [if_neg c9] at H
     have c9b0 : decide (x27_1 < (l0.length : Int)) = false := decide_eq_false c9
     clear c9
     have HC29 := Aside0.mk H
     clear H
     have hcz7 := (HB.out.cell (World.block_lt_of_cell? w _ HK7.out)).trans HK7.out
     go_upto_if 61 with (fail)
     go_cut [13] (fun v13 wc => ∃ (kq : Nat) (x13_28 : List (S65)), Aside0 (rw7.j2 kq a4 x13_28 = some (r1, r2, r3)) ∧ Aside0 (kq ≤ k1) ∧ Aside0 (Kd.Q k65 65 wc w.heap.size (fun _ => True) v13 x13_28) ∧ Aside0 (Below w.heap.size w wc))
     case first =>
      have H := HC29.out
      clear HC29
      by_cases c30 : a2.toList = ([] : List UInt8)
      ·rw [if_pos c30] at H
       have c30b0 : (a2.toList == ([] : List UInt8)) = true := beq_iff_eq.mpr c30
       have c30b1 : (a2.toList != ([] : List UInt8)) = false := bne_eq_false_iff_eq.mpr c30
       have c30b2 : a2.toList.isEmpty = true := by simpa using c30
       clear c30
       (first | rw [c30b0] | rw [c30b1] | (simp only [c30b2, Bool.not_true, Bool.not_false]) | (simp only [i64_w, i32_w]; rw [c30b0]) | skip)
       have H' := Aside0.mk H
       clear H
       go_wp2
       go_meet
       case rel => exact ⟨_, (x13_1), H', ⟨by have := HK1.out; first | omega | exact Nat.le_refl _⟩, ⟨by (with_reducible repeat (first | apply Kd.Q_alloc | apply Kd.Q_drewN | apply Kd.Q_drew)); exact HO_13.out⟩, ⟨by repeat (first | (with_reducible first | exact HB.out | apply below_alloc | apply pw_below_drewN | apply below_drew1) | exact HB.out)⟩⟩
      ·rw [if_neg c30] at H
       have c30b0 : (a2.toList == ([] : List UInt8)) = false := beq_eq_false_iff_ne.mpr c30
       have c30b1 : (a2.toList != ([] : List UInt8)) = true := bne_iff_ne.mpr c30
       have c30b2 : a2.toList.isEmpty = false := by simpa using c30
       (first | rw [c30b0] | rw [c30b1] | (simp only [c30b2, Bool.not_true, Bool.not_false]) | (simp only [i64_w, i32_w]; rw [c30b0]) | skip)
       replace H := Option.bind_eq_some_iff.mp H
       obtain ⟨t198, A310, H⟩ := H
       replace H : (if t198 < 0 then (some (([] : List (S65)), false, 4)) else (if 0 ≤ (wrap64 (t198 + 1)) then (if (wrap64 (t198 + 1)) ≤ (x13_1.length : Int) then (rw7.j2 k1 a4 (x13_1.drop ((wrap64 (t198 + 1)) : Int).toNat)) else (none)) else (none))) = some (r1, r2, r3) := H
       have A31 := Aside0.mk A310
       clear A310
       by_cases c32 : t198 < 0
       ·rw [if_pos c32] at H
        have c32b0 : decide (t198 < 0) = true := decide_eq_true c32
        clear c32
        simp only [Option.some.injEq, Prod.mk.injEq] at H
        obtain ⟨rfl, rfl, rfl⟩ := H
        obtain ⟨Ao33, co33, eo33, _⟩ := Kd.Q_slice HO_13.out
        subst eo33
        go_wp2_with (first | ((with_reducible refine gate_callee (f := 38) rfl ?_); refine goesL_ (some 64) rfl rfl Try.func38 (by kernel_rfl) rfl #[.slice Ao33 x13_1.length co33, .func (.func 39) #[] #[.pointer (some ⟨w0_.heap.size, 0, none⟩), .pointer (some ⟨w0_.heap.size + 1, 0, none⟩)]] rfl (by (try simp only [List.map_toArray, List.map_cons, List.map_nil]); first | done | rfl | (simp only [List.length_drop, List.length_take]; rfl)) ?_; (with_reducible refine (rowAt_calls _ _ x13_1 w0_.heap.size (w0_.heap.size + 1) a2 a3 t198 _ ?side1 ?k7 ?k8 A31.out).mono ?_); (case side1 => repeat (first | exact (Kd.Q_reads' HO_13.out).2.2 | (with_reducible refine Kd.C_alloc ?_ _) | (with_reducible refine Kd.C_drewN ?_ _) | (with_reducible refine Kd.C_drew ?_))); (case k7 => exact ((by repeat (first | (with_reducible first | exact HB.out | apply below_alloc | apply pw_below_drewN | apply below_drew1) | exact HB.out) : Below w.heap.size w _).cell (World.block_lt_of_cell? w _ HK7.out)).trans HK7.out); (case k8 => exact ((by repeat (first | (with_reducible first | exact HB.out | apply below_alloc | apply pw_below_drewN | apply below_drew1) | exact HB.out) : Below w.heap.size w _).cell (World.block_lt_of_cell? w _ HK8.out)).trans HK8.out); rintro e w34 ⟨rfl, hb⟩; refine ⟨_, rfl, ?_⟩; have n0_ := Aside0.mk (Kd.Q_below (by (with_reducible repeat (first | apply Kd.Q_alloc | apply Kd.Q_drewN | apply Kd.Q_drew)); exact HO_13.out) hb); have n1_ := Aside0.mk (below_step (by repeat (first | (with_reducible first | exact HB.out | apply below_alloc | apply pw_below_drewN | apply below_drew1) | exact HB.out)) hb); clear HO_13; clear HB; have HO_13 := n0_; have HB := n1_; clear n0_ n1_; (try clear hb); (try clear hb2); (try clear hk); (try clear hi)))
        go_ret3
        exact ⟨_, by first | rfl | (simp [errW_none, errW_some] <;> rfl) | (simp [*, errW_none, errW_some] <;> rfl), fin_ HBW.out (Kd.Q_of_R (by first | exact Kd.R_nil _ _ _ _ _ | exact Kd.N_nil _ _ _ _ _ | exact Kd.V_nil _ _ _ _ _ | exact Kd.Q_nil _ _ _ _ _ | exact Kd.S_nil _ _ _ _ _)) (by repeat (first | (with_reducible first | exact HB.out | apply below_alloc | apply pw_below_drewN | apply below_drew1) | exact HB.out))⟩
       ·rw [if_neg c32] at H
        have c32b0 : decide (t198 < 0) = false := decide_eq_false c32
        clear c32
        obtain ⟨ji35, hji35⟩ : ∃ j_ : Int, (wrap64 (t198 + 1)) = j_ := ⟨_, rfl⟩
        replace H : (if 0 ≤ (ji35) then (if (ji35) ≤ (x13_1.length : Int) then (rw7.j2 k1 a4 (x13_1.drop ((ji35) : Int).toNat)) else (none)) else (none)) = some (r1, r2, r3) := by first | (rw [hji35] at H; exact H) | (simp only [hji35] at H ⊢; exact H)
        (try rw [hji35] at A31)
        have hji35w : (IntKind.i64.wrap (t198 + 1)) = ji35 := (i64_w _).trans hji35
        by_cases c36 : 0 ≤ (ji35)
        ·rw [if_pos c36] at H
         have c36b0 := eq_true c36
         have c36b1 : decide (0 ≤ (ji35)) = true := decide_eq_true c36
         clear c36
         by_cases c37 : (ji35) ≤ (x13_1.length : Int)
         ·rw [if_pos c37] at H
          have c37b0 := eq_true c37
          have c37b1 : decide ((ji35) ≤ (x13_1.length : Int)) = true := decide_eq_true c37
          clear c37
          obtain ⟨y199, hy199⟩ : ∃ y_ : List (S65), y_ = (x13_1.drop ((ji35) : Int).toNat) := ⟨_, rfl⟩
          replace H : (rw7.j2 k1 a4 y199) = some (r1, r2, r3) := by first | (rw [hy199]; with_reducible exact H) | (have H2_ := (Option.bind_some _ _).symm.trans H; rw [hy199]; with_reducible exact H2_) | (have H2_ := (Option.bind_some _ _).symm.trans H; with_reducible exact H2_) | with_reducible exact H | (rw [hy199]; exact H) | exact H
          have Ny199 := Aside0.mk hy199
          clear hy199
          have H' := Aside0.mk H
          clear H
          obtain ⟨Ao38, co38, eo38, _⟩ := Kd.Q_slice HO_13.out
          subst eo38
          go_wp2_with (first | ((with_reducible refine gate_callee (f := 38) rfl ?_); refine goesL_ (some 64) rfl rfl Try.func38 (by kernel_rfl) rfl #[.slice Ao38 x13_1.length co38, .func (.func 39) #[] #[.pointer (some ⟨w0_.heap.size, 0, none⟩), .pointer (some ⟨w0_.heap.size + 1, 0, none⟩)]] rfl (by (try simp only [List.map_toArray, List.map_cons, List.map_nil]); first | done | rfl | (simp only [List.length_drop, List.length_take]; rfl)) ?_; (with_reducible refine (rowAt_calls _ _ x13_1 w0_.heap.size (w0_.heap.size + 1) a2 a3 t198 _ ?side1 ?k7 ?k8 A31.out).mono ?_); (case side1 => repeat (first | exact (Kd.Q_reads' HO_13.out).2.2 | (with_reducible refine Kd.C_alloc ?_ _) | (with_reducible refine Kd.C_drewN ?_ _) | (with_reducible refine Kd.C_drew ?_))); (case k7 => exact ((by repeat (first | (with_reducible first | exact HB.out | apply below_alloc | apply pw_below_drewN | apply below_drew1) | exact HB.out) : Below w.heap.size w _).cell (World.block_lt_of_cell? w _ HK7.out)).trans HK7.out); (case k8 => exact ((by repeat (first | (with_reducible first | exact HB.out | apply below_alloc | apply pw_below_drewN | apply below_drew1) | exact HB.out) : Below w.heap.size w _).cell (World.block_lt_of_cell? w _ HK8.out)).trans HK8.out); rintro e w39 ⟨rfl, hb⟩; refine ⟨_, rfl, ?_⟩; have n0_ := Aside0.mk (Kd.Q_below (by (with_reducible repeat (first | apply Kd.Q_alloc | apply Kd.Q_drewN | apply Kd.Q_drew)); exact HO_13.out) hb); have n1_ := Aside0.mk (below_step (by repeat (first | (with_reducible first | exact HB.out | apply below_alloc | apply pw_below_drewN | apply below_drew1) | exact HB.out)) hb); clear HO_13; clear HB; have HO_13 := n0_; have HB := n1_; clear n0_ n1_; (try clear hb); (try clear hb2); (try clear hk); (try clear hi); have q40 : ((ji35) : Int) ≤ ((x13_1.length : Int) : Int) := of_decide_eq_true (by first | (with_reducible assumption) | assumption); obtain ⟨i040, hi040, _, hsz40, _⟩ := info_parts info65; have hcut40 := cut_from (P := Try.prog) 56 65 .i64 Try.underlying56 hi040 5 hsz40 Ao38 x13_1.length co38 (ji35) (of_decide_eq_true (by first | (with_reducible assumption) | assumption)) q40; have hr40 := Kd.Q_drop (k := ((ji35) : Int).toNat) HO_13.out (by omega); obtain ⟨A40, hA40⟩ : ∃ A1, A1 = (if co38 = ((ji35) : Int).toNat then Ao38 else (Ao38 : Option Addr).map (·.add (((ji35) : Int).toNat * 5))) := ⟨_, rfl⟩; obtain ⟨c40, hc40⟩ : ∃ c1, c1 = co38 - ((ji35) : Int).toNat := ⟨_, rfl⟩; have hy40 : y199.length = x13_1.length - ((ji35) : Int).toNat := (by rw [Ny199.out, List.length_drop]); rw [← Ny199.out] at hr40; rw [← hy40, ← hA40, ← hc40] at hcut40; replace hr40 : Kd.Q k65 65 w39 w.heap.size (fun _ => True) (.slice A40 y199.length c40) y199 := (by rw [hA40, hc40, hy40]; exact hr40); clear hy40 hi040 hsz40 HO_13 hA40 hc40; have HO201 := Aside0.mk hr40; clear hr40; replace q40 := eq_true q40))
          go_meet
          case rel => exact ⟨_, (y199), H', ⟨by have := HK1.out; first | omega | exact Nat.le_refl _⟩, ⟨by (with_reducible repeat (first | apply Kd.Q_alloc | apply Kd.Q_drewN | apply Kd.Q_drew)); exact HO201.out⟩, ⟨by repeat (first | (with_reducible first | exact HB.out | apply below_alloc | apply pw_below_drewN | apply below_drew1) | exact HB.out)⟩⟩
         ·rw [if_neg c37] at H
          exact absurd H (by simp)
        ·rw [if_neg c36] at H
         exact absurd H (by simp)
     case rest =>
      clear HC29
      try clear c1
      try clear p1
      try clear q1
      try clear hx1
      try clear c2
      try clear p2
      try clear c3
      try clear c4
      try clear q4
      try clear p6
      try clear c7
      try clear c9
      try clear c9b0
      try clear c10
      try clear c10b0
      try clear c11
      try clear c11b0
      try clear c14
      try clear c14b0
      try clear c15
      try clear c15b0
      try clear c16
      try clear c16b0
      try clear c18
      try clear c19
      try clear p19
      try clear q19
      try clear hx19
      try clear c21
      try clear c22
      try clear c26
      try clear c30
      try clear c30b0
      try clear c30b1
      try clear c32
      try clear c32b0
      try clear c36
      try clear c36b0
      try clear c36b1
      try clear c37
      try clear c37b0
      try clear c37b1
      try clear c38
      try clear c40
      try clear q40
      try clear hcz13_0
      try clear hcz13_1
      try clear hcz22_0
      try clear hcz22_1
      try clear hcz22_2
      try clear hcz22_3
      try clear hcz23_0
      try clear hcz23_1
      try clear hcz27_0
      try clear hcz27_1
      try clear hcz27_2
      try clear hcz27_3
      try clear hcz28_0
      try clear hcz28_1
      try clear hfz13_0
      try clear hfz13_1
      try clear hfz22_0
      try clear hfz22_1
      try clear hfz22_2
      try clear hfz22_3
      try clear hfz23_0
      try clear hfz23_1
      try clear hfz27_0
      try clear hfz27_1
      try clear hfz27_2
      try clear hfz27_3
      try clear hfz28_0
      try clear hfz28_1
      try clear hx190_0
      try clear hx190_1
      try clear hx192_0
      try clear hx192_1
      try clear hx192_2
      try clear hx192_3
      try clear p1
      try clear p190
      try clear p192
      try clear p2
      try clear q1
      try clear q190
      try clear q192
      try clear q40
      obtain ⟨kq, x13_28, HA, HJ28, HO_13, HB⟩ := hcut
      cases kq with
      | zero => exact absurd HA.out (by simp [rw7.j2])
      | succ kj28 =>
       have H := HA.out
       clear HA
       simp only [rw7.j2] at H
       by_cases c41 : (x13_28.length : Int) > a4
       ·rw [if_pos c41] at H
        have c41b0 : decide (a4 < (x13_28.length : Int)) = true := decide_eq_true c41
        clear c41
        by_cases c42 : 0 ≤ a4
        ·rw [if_pos c42] at H
         have c42b0 := eq_true c42
         have c42b1 : decide (0 ≤ a4) = true := decide_eq_true c42
         clear c42
         by_cases c43 : a4 ≤ (x13_28.length : Int)
         ·rw [if_pos c43] at H
          have c43b0 := eq_true c43
          have c43b1 : decide (a4 ≤ (x13_28.length : Int)) = true := decide_eq_true c43
          clear c43
          obtain ⟨y202, hy202⟩ : ∃ y_ : List (S65), y_ = (x13_28.take (a4 : Int).toNat) := ⟨_, rfl⟩
          replace H : (some (y202, true, 0)) = some (r1, r2, r3) := by first | (rw [hy202]; with_reducible exact H) | (have H2_ := (Option.bind_some _ _).symm.trans H; rw [hy202]; with_reducible exact H2_) | (have H2_ := (Option.bind_some _ _).symm.trans H; with_reducible exact H2_) | with_reducible exact H | (rw [hy202]; exact H) | exact H
          have Ny202 := Aside0.mk hy202
          clear hy202
          simp only [Option.some.injEq, Prod.mk.injEq] at H
          obtain ⟨rfl, rfl, rfl⟩ := H
          obtain ⟨Ao44, co44, eo44, _⟩ := Kd.Q_slice HO_13.out
          subst eo44
          have q45 : (a4 : Int) ≤ ((x13_28.length : Int) : Int) := of_decide_eq_true (by first | (with_reducible assumption) | assumption)
          obtain ⟨i045, hi045, _, hsz45, _⟩ := info_parts info65
          have hcut45 := cut_full (P := Try.prog) 56 65 .i64 Try.underlying56 hi045 Ao44 x13_28.length co44 a4 (of_decide_eq_true (by first | (with_reducible assumption) | assumption)) q45 (Kd.Q_reads' HO_13.out).2.1
          have hr45 := Kd.Q_take (m := (a4 : Int).toNat) HO_13.out (by omega)
          have hy45 : y202.length = (a4 : Int).toNat := (by rw [Ny202.out, List.length_take]; omega)
          rw [← Ny202.out] at hr45
          rw [← hy45] at hr45 hcut45
          clear hy45 hi045 hsz45 HO_13
          have HO204 := Aside0.mk hr45
          clear hr45
          replace q45 := eq_true q45
          go_wp2
          go_ret3
          exact ⟨_, by first | rfl | (simp [errW_none, errW_some] <;> rfl) | (simp [*, errW_none, errW_some] <;> rfl), fin3_ HBW.out HO204.out (by repeat (first | (with_reducible first | exact HB.out | apply below_alloc | apply pw_below_drewN | apply below_drew1) | exact HB.out))⟩
         ·rw [if_neg c43] at H
          exact absurd H (by simp)
        ·rw [if_neg c42] at H
         exact absurd H (by simp)
       ·rw [if_neg c41] at H
        have c41b0 : decide (a4 < (x13_28.length : Int)) = false := decide_eq_false c41
        clear c41
        simp only [Option.some.injEq, Prod.mk.injEq] at H
        obtain ⟨rfl, rfl, rfl⟩ := H
        obtain ⟨Ao46, co46, eo46, _⟩ := Kd.Q_slice HO_13.out
        subst eo46
        go_wp2
        go_ret3
        exact ⟨_, by first | rfl | (simp [errW_none, errW_some] <;> rfl) | (simp [*, errW_none, errW_some] <;> rfl), fin_ HBW.out (by (with_reducible repeat (first | apply Kd.Q_alloc | apply Kd.Q_drewN | apply Kd.Q_drew)); exact HO_13.out) (by repeat (first | (with_reducible first | exact HB.out | apply below_alloc | apply pw_below_drewN | apply below_drew1) | exact HB.out))⟩
 ·replace c7 := Bool.eq_false_iff.mpr c7
  subst c7
  have H1 : (some (([] : List (S65)), false, 1)) = some (r1, r2, r3) := by rw [if_neg (show ¬ (false = true) by decide)] at H; exact H
  clear H
  have H := H1
  clear H1
  simp only [Option.some.injEq, Prod.mk.injEq] at H
  obtain ⟨rfl, rfl, rfl⟩ := H
  go_wp2_with (first | ((with_reducible refine gate_callee (f := 26) rfl ?_); refine goesL_ (some 23) rfl rfl Try.func26 (by kernel_rfl) rfl #[.slice A0 l0.length c0, .string a1, .string a2, .int .i64 a4] rfl (by (try simp only [List.map_toArray, List.map_cons, List.map_nil]); first | done | rfl | (simp only [List.length_drop, List.length_take]; rfl)) ?_; (with_reducible refine (pager_good.calls k _ _ l0 a1 a2 a4 false _ ?side1 ?side2 A6.out).mono ?_); (case side1 => repeat (first | exact HR0.out | (with_reducible refine Kd.C_alloc ?_ _) | (with_reducible refine Kd.C_drewN ?_ _) | (with_reducible refine Kd.C_drew ?_))); (case side2 => exact HC0.out); rintro e w47 ⟨rfl, hb⟩; refine ⟨_, rfl, ?_⟩; have n0_ := Aside0.mk (below_step (by repeat (first | (with_reducible first | exact HB.out | apply below_alloc | apply pw_below_drewN | apply below_drew1) | exact HB.out)) hb); clear HB; have HB := n0_; clear n0_; (try clear hb); (try clear hb2); (try clear hk); (try clear hi)))
  go_ret3
  exact ⟨_, by first | rfl | (simp [errW_none, errW_some] <;> rfl) | (simp [*, errW_none, errW_some] <;> rfl), fin_ HBW.out (Kd.Q_of_R (by first | exact Kd.R_nil _ _ _ _ _ | exact Kd.N_nil _ _ _ _ _ | exact Kd.V_nil _ _ _ _ _ | exact Kd.Q_nil _ _ _ _ _ | exact Kd.S_nil _ _ _ _ _)) (by repeat (first | (with_reducible first | exact HB.out | apply below_alloc | apply pw_below_drewN | apply below_drew1) | exact HB.out))⟩

def rowsF (k : Nat) (l : List S50) (pre key : ByteArray) (id most : Int) : Option (List S65 × Bool × Int) := rw7.f k l pre key id most
theorem rowsF_mono (l : List S50) (pre key : ByteArray) (id most : Int) (k : Nat) : LeO (rowsF k l pre key id most) (rowsF (k + 1) l pre key id most) := rw7.mono l pre key id most k
theorem rows_any (k : Nat) (A : Option Addr) (c : Nat) (l : List S50) (pre key : ByteArray) (id most : Int) (r1 : List S65) (r2 : Bool) (r3 : Int) (w : World) (hr : Kd.C k50 w A l.length l) (hc : l.length ≤ c) (h : rowsF k l pre key id most = some (r1, r2, r3)) :
    Calls Try.prog 22 #[.slice A l.length c, .string pre, .string key, .int .u64 id, .int .i64 most] w fun e w' => ∃ v0_ : Value, e = .returned (.tuple #[v0_, .bool r2, .int .i64 r3]) ∧ Kd.V k65 65 w' w.heap.size (fun k_ => w.heap.size ≤ k_) v0_ r1 ∧ Below w.heap.size w w' :=
  rw7.calls k A c l pre key id most r1 r2 r3 w hr hc h
end Go.Proofs.Ytcnnijkgiioniaa.PgRows
