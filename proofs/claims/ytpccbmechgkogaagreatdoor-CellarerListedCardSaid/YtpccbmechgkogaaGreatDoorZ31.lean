/-
  Lemmas: Ins, InsB.
-/
import Derived.Test.YtpccbmechgkogaaGreatDoorProg
import Derived.Lib.SliceRun
import Derived.LoopTactic
import Derived.Outline
import Derived.Lib.Overlaps
import Derived.Shelf.Spec.SlicesInsert
import Derived.Shelf.RegionOpenPlain
import Derived.KernelRfl
import Derived.Test.YtpccbmechgkogaaGreatDoorV0
import Derived.Test.YtpccbmechgkogaaGreatDoorZ00
import Derived.Test.YtpccbmechgkogaaGreatDoorZ12
import Derived.Test.YtpccbmechgkogaaGreatDoorZ18
import Derived.Test.YtpccbmechgkogaaGreatDoorZ27
set_option linter.unusedVariables false
set_option linter.unusedSimpArgs false
namespace Go.Proofs.YtpccbmechgkogaaGreatDoor.Ins
open Go.RowKit Go.Proofs.YtpccbmechgkogaaGreatDoorW.PrintWords Go.Proofs.YtpccbmechgkogaaGreatDoor.Row
theorem run_zeros_more {P : Program} (w : World) (t ti ty e : TypeId) (i : TypeInfo) (z : Value) (ht : P.underlying t = some (.slice e)) {k : IntKind} (hti : P.underlying ti = some (.int k)) (hi : P.info? e = some i) (hz : i.zero = some z)
  (hsn : i.size ≠ 0) (kx : IntKind) (g s cap m : Nat) (cs : List Value) (hl : cs.length = s * i.size) (hcs : ∀ j v, cs[j]? = some v → w.cell? ⟨g, j, none⟩ = some v) (hm : m ≠ 0) (hcap : cap < s + m) (hbytes : (s + m) * i.bytes ≤ 140737488355328) (hb0 : 0 < i.bytes) :
  (Builtin.append_ #[t, ti] ty #[.slice (some ⟨g, 0, none⟩) s cap, .int kx m]).run P w =
   .ok (.slice (some ⟨w.heap.size, 0, none⟩) (s + m) (grownCap w (s + m) cap e)) (w.drew.alloc (.cells (cs.toArray ++ Builtin.zeroCells z.cells m ++ Builtin.zeroCells z.cells (grownCap w (s + m) cap e - (s + m))) e)) := by
 have hle : s + m ≤ 140737488355328 := Nat.le_trans (Nat.le_mul_of_pos_right _ hb0) hbytes
 have hmb : m * i.bytes ≤ 140737488355328 := Nat.le_trans (Nat.mul_le_mul_right _ (by omega)) hbytes
 have hw : IntKind.i64.wrap (m : Int) = m := by rw [IntKind.wrap_i64]; omega
 have hneg : ¬ ((m : Int) < 0) := by omega
 have hbig : ¬ (281474976710656 < (m : Int) * (i.bytes : Int)) := by
  rw [← Int.natCast_mul]
  omega
 have hn : ¬ (s + m ≤ cap) := by omega
 have h63' : ¬ (9223372036854775807 < (s : Int) + (m : Int)) := by omega
 have hfit := growslice_fits hcap hbytes
 have h48' : ¬ (281474976710656 < Builtin.nextslicecap (s + m) cap * i.bytes) := by omega
 have hfo : (Builtin.firstCells i.size s (.slice (some ⟨g, 0, none⟩) s cap)).run P w.drew = .ok cs.toArray w.drew :=
  run_firstCells_some (P := P) w.drew i.size s ⟨g, 0, none⟩ s cap cs hl (fun j v hj => by rw [Addr.add_lit, Nat.zero_add]; exact hcs j v hj)
 simp [Builtin.append_, run_underlying ht, run_underlying hti, sizeOf, typeInfo, zeroValue, hi, hz, asInt, asIntOf, hw, hneg, hbig, hn, h63', h48', Question.forced, hfo, newRow, grownCap]
 intro h0
 exact absurd h0 (Nat.mul_ne_zero hm hsn)
section
variable {α : Type} {d : Kd α} {e n cap g : Nat} {ok : Nat → Prop} {w w1 : World} {xs : List α} {cur : Array Value}
theorem reps_insert {R : α → List Value → Prop} {q i : Nat} {x : α} {cs cx : List Value} (h : Reps R q xs cs) (hi : i ≤ xs.length) (hx : R x cx) (hl : cx.length = q) : Reps R q (xs.take i ++ [x] ++ xs.drop i) (cs.take (i * q) ++ cx ++ cs.drop (i * q)) := by
 have h1 : Reps R q [x] cx := by
  have := (Reps.none R q).snoc hx hl
  simpa using this
 exact Kd.reps_append (Kd.reps_append (Kd.reps_take h hi) h1) (Kd.reps_drop h)
theorem insert_len {i : Nat} {x : α} (hi : i ≤ xs.length) : (xs.take i ++ [x] ++ xs.drop i).length = xs.length + 1 := by
 simp only [List.length_append, List.length_take, List.length_drop, List.length_singleton]
 omega
abbrev own (cur : Array Value) (m : Nat) : List Value := cur.toList.take m
theorem own_len (h : Row d w ok g e n cap xs cur) (m : Nat) (hm : m ≤ n * d.sz) : (own cur m).length = m := by
 have h2 := Nat.mul_le_mul_right d.sz h.le
 rw [List.length_take, Array.length_toList, h.size]
 omega
theorem own_cell (h : Row d w ok g e n cap xs cur) (m : Nat) : ∀ j v, (own cur m)[j]? = some v → w.cell? ⟨g, j, none⟩ = some v := fun j v hj => by
 rw [List.getElem?_take] at hj
 split at hj
 ·rw [blk_cell h.heap j, ← Array.getElem?_toList]
  exact hj
 ·cases hj
theorem own_one (h : Row d w ok g e n cap xs cur) : ∀ v ∈ own cur (n * d.sz), v.oneCell' = true := by
 intro v hv
 obtain ⟨j, hj, rfl⟩ := List.getElem_of_mem hv
 have hlen := h.reps.1
 have hq : 0 < d.sz := by
  rcases Nat.eq_zero_or_pos d.sz with h0 | h0
  ·rw [hlen, h0] at hj; omega
  ·exact h0
 have hk : j / d.sz < xs.length := by rw [hlen] at hj; exact Nat.div_lt_of_lt_mul (by rw [Nat.mul_comm]; exact hj)
 have hK := h.reps.2 (j / d.sz) _ (List.getElem?_eq_getElem hk)
 refine d.K_one (Kd.FK_now hK) _ ?_
 have hmod : j % d.sz < d.sz := Nat.mod_lt _ hq
 have he : j = j / d.sz * d.sz + j % d.sz := by rw [Nat.mul_comm]; exact (Nat.div_add_mod j d.sz).symm
 refine List.mem_of_getElem? (i := j % d.sz) ?_
 rw [List.getElem?_take, if_pos hmod, List.getElem?_drop, ← he]
 exact List.getElem?_eq_getElem hj
theorem one_F {okp : Nat → Prop} {vb t : Nat} {x : α} {cx : List Value} (hb : w.heap[vb]? = some (.cells cx.toArray t (0, 0))) (hx : Kd.FK d w okp x cx) : Kd.F d w (fun k => okp k ∨ k = vb) (some ⟨vb, 0, none⟩) 1 [x] := fun W' hW => by
 refine ⟨rfl, by omega, fun _ => ⟨_, rfl, fun j p hj => ?_⟩⟩
 have hb' : W'.heap[vb]? = some (.cells cx.toArray t (0, 0)) := (hW vb (.inr rfl) (blk_lt hb)).trans hb
 have hx' := hx W' (fun k hk hlt => hW k (.inl hk) hlt)
 cases j with
 | zero =>
  simp only [List.getElem?_cons_zero, Option.some.injEq] at hj
  subst hj
  refine ⟨cx, d.K_len hx', hx', fun i u hu => ?_⟩
  rw [Addr.add_lit, Nat.zero_mul, Nat.zero_add, Nat.zero_add, blk_cell hb' i]
  simpa using hu
 | succ j => simp at hj
theorem room_row {i : Nat} {x : α} {cx : List Value} (h : Row d w ok g e n cap xs cur) (hi : i ≤ n) (hroom : n + 1 ≤ cap) (hx : Kd.FK d w ok x cx) :
  ∃ cur', Row d ((w.drew.setCells g ((i + 1) * d.sz) ((own cur (n * d.sz)).drop (i * d.sz))).setCells g (i * d.sz) cx) ok g e (n + 1) cap (xs.take i ++ [x] ++ xs.drop i) cur' := by
 have hcl : cx.length = d.sz := d.K_len (Kd.FK_now hx)
 have hrl : ((own cur (n * d.sz)).drop (i * d.sz)).length = n * d.sz - i * d.sz := by rw [List.length_drop, own_len h _ (Nat.le_refl _)]
 have hin : i * d.sz ≤ n * d.sz := Nat.mul_le_mul_right _ hi
 have e1 : (i + 1) * d.sz = i * d.sz + d.sz := Nat.succ_mul _ _
 have e2 : (n + 1) * d.sz = n * d.sz + d.sz := Nat.succ_mul _ _
 have hcs := Nat.mul_le_mul_right d.sz hroom
 obtain ⟨c1, a1, a2, a3⟩ := setCells_row ((own cur (n * d.sz)).drop (i * d.sz)) ((i + 1) * d.sz) w.drew cur h.heap (by rw [hrl, h.size]; omega)
 obtain ⟨c2, b1, b2, b3⟩ := setCells_row cx (i * d.sz) _ c1 a1 (by rw [a2, h.size, hcl]; omega)
 refine ⟨c2, ?_⟩
 have hlen := h.len
 have hw := h.written (xs' := xs.take i ++ [x] ++ xs.drop i) (cur1 := c2) (show w.grownBy _ (some g) from World.grownBy.trans (World.grownBy.trans (show w.grownBy w.drew (some g) from ⟨rfl, rfl, rfl, Nat.le_refl _, fun _ _ _ => rfl⟩) (setCells_grown _ g _ _)) (setCells_grown _ g _ _)) b1 (b2.trans a2) (by rw [insert_len (by omega)]; omega) ?_
 ·rw [insert_len (by omega), ← hlen] at hw
  exact hw
 ·rw [insert_len (by omega), ← hlen]
  have hm := reps_insert h.reps (i := i) (x := x) (cx := cx) (by omega) hx hcl
  have ht : c2.toList.take ((n + 1) * d.sz) = (own cur (n * d.sz)).take (i * d.sz) ++ cx ++ (own cur (n * d.sz)).drop (i * d.sz) := by
   rw [b3, a3]
   have hcur : cur.toList.length = cap * d.sz := by rw [Array.length_toList, h.size]
   have e4 : (List.take ((i + 1) * d.sz) cur.toList ++ (own cur (n * d.sz)).drop (i * d.sz) ++ List.drop ((i + 1) * d.sz + ((own cur (n * d.sz)).drop (i * d.sz)).length) cur.toList).take (i * d.sz) = (own cur (n * d.sz)).take (i * d.sz) := by
    rw [List.append_assoc, List.take_append_of_le_length (by rw [List.length_take, hcur]; omega), List.take_take, Nat.min_eq_left (by omega), List.take_take, Nat.min_eq_left hin]
   have e5 : (List.take ((i + 1) * d.sz) cur.toList ++ (own cur (n * d.sz)).drop (i * d.sz) ++ List.drop ((i + 1) * d.sz + ((own cur (n * d.sz)).drop (i * d.sz)).length) cur.toList).drop (i * d.sz + cx.length) = (own cur (n * d.sz)).drop (i * d.sz) ++ List.drop ((i + 1) * d.sz + ((own cur (n * d.sz)).drop (i * d.sz)).length) cur.toList := by
    rw [List.append_assoc]
    refine List.drop_left' ?_
    rw [List.length_take, hcur, hcl]
    omega
   rw [e4, e5, ← List.append_assoc]
   refine List.take_left' ?_
   rw [List.length_append, List.length_append, hrl, hcl, List.length_take, own_len h _ (Nat.le_refl _)]
   omega
  rw [ht]
  exact hm
theorem grow_row {i gs : Nat} {x : α} {cx : List Value} {Z1 Z2 : Array Value} (h : Row d w ok g e n cap xs cur) (hi : i < n) (hgs : n + 1 ≤ gs) (hmx : gs ≤ maxLen) (hx : Kd.FK d w ok x cx) (hok : ∀ k, ok k → k < w.heap.size) (hz1 : Z1.size = (n + 1 - i) * d.sz) (hz2 : Z2.size = (gs - (n + 1)) * d.sz) :
  ∃ cur', Row d (((w.drew.alloc (.cells ((own cur (i * d.sz)).toArray ++ Z1 ++ Z2) e)).setCells w.heap.size (i * d.sz) cx).drew.setCells w.heap.size ((i + 1) * d.sz) ((own cur (n * d.sz)).drop (i * d.sz))) ok w.heap.size e (n + 1) gs (xs.take i ++ [x] ++ xs.drop i) cur' := by
 have hcl : cx.length = d.sz := d.K_len (Kd.FK_now hx)
 have hrl : ((own cur (n * d.sz)).drop (i * d.sz)).length = n * d.sz - i * d.sz := by rw [List.length_drop, own_len h _ (Nat.le_refl _)]
 have hin : i * d.sz ≤ n * d.sz := Nat.mul_le_mul_right _ (by omega)
 have e1 : (i + 1) * d.sz = i * d.sz + d.sz := Nat.succ_mul _ _
 have e2 : (n + 1) * d.sz = n * d.sz + d.sz := Nat.succ_mul _ _
 have e3 : gs * d.sz = (n + 1) * d.sz + (gs - (n + 1)) * d.sz := by rw [← Nat.add_mul]; congr 1; omega
 have e3' : (n + 1) * d.sz = i * d.sz + (n + 1 - i) * d.sz := by rw [← Nat.add_mul]; congr 1; omega
 have hlen := h.len
 have hol := own_len h (i * d.sz) hin
 obtain ⟨c0, hc0⟩ : ∃ c0, c0 = (own cur (i * d.sz)).toArray ++ Z1 ++ Z2 := ⟨_, rfl⟩
 have hs0 : c0.size = gs * d.sz := by rw [hc0]; simp only [Array.size_append, List.size_toArray, hol, hz1, hz2]; omega
 have ht0 : c0.toList.take (i * d.sz) = own cur (i * d.sz) := by
  rw [hc0]
  simp only [Array.toList_append, List.append_assoc]
  exact List.take_left' hol
 rw [← hc0]
 obtain ⟨c1, a1, a2, a3⟩ := setCells_row cx (i * d.sz) (w.drew.alloc (.cells c0 e)) c0 (blk_new w.drew (.cells c0 e)) (by rw [hs0, hcl]; omega)
 obtain ⟨c2, b1, b2, b3⟩ := setCells_row ((own cur (n * d.sz)).drop (i * d.sz)) ((i + 1) * d.sz) (((w.drew.alloc (.cells c0 e)).setCells w.heap.size (i * d.sz) cx).drew) c1 a1 (by rw [a2, hs0, hrl]; omega)
 refine ⟨c2, b1, by rw [b2, a2, hs0], hgs, hmx, by rw [insert_len (by omega)]; omega, ?_, fun k hk => by have := hok k hk; omega⟩
 have hg1 : ∀ k, ok k → k < w.heap.size → (((w.drew.alloc (.cells c0 e)).setCells w.heap.size (i * d.sz) cx).drew.setCells w.heap.size ((i + 1) * d.sz) ((own cur (n * d.sz)).drop (i * d.sz))).heap[k]? = w.heap[k]? := fun k hk hlt => by
  rw [setCells_far _ _ k (by omega)]
  show ((w.drew.alloc (.cells c0 e)).setCells w.heap.size (i * d.sz) cx).heap[k]? = _
  rw [setCells_far _ _ k (by omega)]
  exact Below.heap_alloc w.drew (.cells c0 e) k hlt
 have hm := (reps_insert h.reps (i := i) (x := x) (cx := cx) (by omega) hx hcl).imp_ (fun _ _ hk => Kd.FK_step hk hg1)
 have ht : c2.toList.take ((n + 1) * d.sz) = (own cur (n * d.sz)).take (i * d.sz) ++ cx ++ (own cur (n * d.sz)).drop (i * d.sz) := by
  rw [b3, a3, ht0]
  have hc0l : c0.toList.length = gs * d.sz := by rw [Array.length_toList, hs0]
  have e6 : (own cur (i * d.sz) ++ cx ++ List.drop (i * d.sz + cx.length) c0.toList).take ((i + 1) * d.sz) = own cur (i * d.sz) ++ cx := by
   refine List.take_left' ?_
   rw [List.length_append, hol, hcl, e1]
  rw [e6, show (own cur (n * d.sz)).take (i * d.sz) = own cur (i * d.sz) by rw [List.take_take, Nat.min_eq_left hin]]
  refine List.take_left' ?_
  rw [List.length_append, List.length_append, hrl, hol, hcl]
  omega
 rw [ht]
 exact hm
end
end Go.Proofs.YtpccbmechgkogaaGreatDoor.Ins
namespace Go.Proofs.YtpccbmechgkogaaGreatDoor.InsB
open Go.RowKit Go.Proofs.YtpccbmechgkogaaGreatDoor.P Go.Proofs.YtpccbmechgkogaaGreatDoorW.PrintWords Go.Proofs.YtpccbmechgkogaaGreatDoorW.PrintLast Go.Proofs.YtpccbmechgkogaaGreatDoorW.PrintMore Go.Proofs.YtpccbmechgkogaaGreatDoor.Row Go.Proofs.YtpccbmechgkogaaGreatDoor.Ins Go.Proofs.YtpccbmechgkogaaGreatDoor.VCopy Go.Proofs.YtpccbmechgkogaaGreatDoor.VApp
abbrev T := S40
def Ins (w : World) (base : Nat) (ok : Nat → Prop) (r : List T) (en : Ending) (w' : World) : Prop := ∃ v' : Value, en = .returned v' ∧ Kd.V k40 0 w' 0 (fun k => ok k ∨ w.heap.size ≤ k) v' r ∧ Below base w w'
theorem info : ∃ i : TypeInfo, Tryz.prog.info? 40 = some i ∧ i.zero = some (.agg #[(.string ⟨#[]⟩), (.int .i64 0), (.slice none 0 0), (.slice none 0 0), (.int .u64 0)]) ∧ i.size = 5 ∧ i.bytes = 80 := by
 obtain ⟨i, hi, h⟩ := Option.map_eq_some_iff.1 ClB.info
 simp only [Prod.mk.injEq] at h
 exact ⟨i, hi, h.1, h.2.1, h.2.2⟩
theorem size_T : (Tryz.prog.info? 40).map (·.size) = some 5 := by
 obtain ⟨i, hi, _, hs, _⟩ := info
 rw [hi]; simp [hs]
set_option maxRecDepth 100000 in
set_option maxHeartbeats 3200000 in
theorem insert_end (w : World) (base : Nat) (ok okp : Nat → Prop) (v : Value) (l : List T) (x : T) (cx : List Value) (vb t : Nat) (h : Kd.N k40 40 w base ok v l) (hl : l.length ≤ 100) (hb : w.heap[vb]? = some (.cells cx.toArray t (0, 0))) (hx : Kd.FK k40 w okp x cx) (hok : ∀ k, okp k ∨ k = vb → ok k ∧ some k ≠ v.ownBlock) (hbase : base ≤ w.heap.size) :
  Calls Tryz.prog 52 #[v, .int .i64 l.length, .slice (some ⟨vb, 0, none⟩) 1 1] w (Ins w base ok (l ++ [x])) := by
 have HN := Aside0.mk (Kd.N_mono h (fun k hk => (Or.inl hk : ok k ∨ w.heap.size ≤ k)))
 have HX := Aside0.mk (one_F hb hx)
 have HOK := Aside0.mk hok
 have HB := Aside0.mk hbase
 have HL := Aside0.mk hl
 obtain ⟨A, c, rfl⟩ := Kd.N_slice h
 clear h hb hx hok hbase hl
 have hu := Tryz.underlying40
 go_enter Tryz.func52, Tryz.ntmps52
 go_wp2_with (first
  | ((with_reducible refine gate_builtin (b := .append) (xs := #[.tmp 23, .tmp 24]) rfl ?_); at_builtin; refine Kd.N_append_rows k40 (w0 := w) base rfl (.tmp 23) (.tmp 24) 23 40 (.agg #[(.string ⟨#[]⟩), (.int .i64 0), (.slice none 0 0), (.slice none 0 0), (.int .u64 0)]) 80 rfl Tryz.underlying23 ClB.info rfl (by decide) (by decide) (.slice A l.length c) l [x] (some ⟨vb, 0, none⟩) 1 1 (fun k => ok k ∨ w.heap.size ≤ k) (fun k => okp k ∨ k = vb) rfl rfl HN.out HX.out (fun k hk => ⟨.inl (HOK.out k hk).1, (HOK.out k hk).2⟩) (fun k hk => .inr hk) (Below.refl _ _) HB.out ?hl ?_; (case hl => have := HL.out; omega); intro v1 w1 hN1 hB1 hg hat; have HN1 := Aside0.mk hN1; have HB1 := Aside0.mk hB1; clear hN1 hB1 hg hat))
 all_goals
  go_ret
  exact ⟨v1, rfl, show Kd.V k40 40 w1 0 _ v1 _ from Kd.N_V HN1.out, HB1.out⟩
set_option maxRecDepth 100000 in
set_option maxHeartbeats 6400000 in
theorem insert_grow (w : World) (base g n cap i : Nat) (ok : Nat → Prop) (l : List T) (cur : Array Value) (x : T) (cx : List Value) (vb t : Nat) (h : Row k40 w ok g 40 n cap l cur) (hl : n ≤ 100) (hi : i < n) (hroom : cap < n + 1) (hb : w.heap[vb]? = some (.cells cx.toArray t (0, 0))) (hx : Kd.FK k40 w ok x cx) (hok : ∀ k, ok k → k < w.heap.size) (hbase : base ≤ w.heap.size) :
  Calls Tryz.prog 52 #[.slice (some ⟨g, 0, none⟩) n cap, .int .i64 i, .slice (some ⟨vb, 0, none⟩) 1 1] w (Ins w base ok (l.take i ++ [x] ++ l.drop i)) := by
 obtain ⟨inf, hinf, hz, hs, hby⟩ := info
 have hgl : g < w.heap.size := blk_lt h.heap
 have hvl : vb < w.heap.size := blk_lt hb
 have hiq : i * 5 ≤ n * 5 := by omega
 have hcx : cx.length = 5 := k40.K_len (Kd.FK_now hx)
 have hzr := run_zeros_more (P := Tryz.prog) w 23 3 23 40 inf (.agg #[(.string ⟨#[]⟩), (.int .i64 0), (.slice none 0 0), (.slice none 0 0), (.int .u64 0)]) Tryz.underlying23 Tryz.underlying3 hinf hz (by omega) .i64 g i cap (n + 1 - i) (own cur (i * 5)) (by rw [hs]; exact own_len h _ hiq) (own_cell h _) (by omega) (by omega) (by rw [hby]; omega) (by omega)
 rw [show i + (n + 1 - i) = n + 1 by omega] at hzr
 obtain ⟨gs, hgs, hcap⟩ : ∃ gs, grownCap w (n + 1) cap 40 = gs ∧ n + 1 ≤ gs := ⟨_, rfl, grownCap_ge w _ _ _⟩
 have hmx : gs ≤ maxLen := hgs ▸ grownCap_le_maxLen w (n + 1) cap 40 (by simp only [maxLen]; omega)
 rw [hgs] at hzr
 have hzs : ∀ k, (Builtin.zeroCells (Value.agg #[(.string ⟨#[]⟩), (.int .i64 0), (.slice none 0 0), (.slice none 0 0), (.int .u64 0)]).cells k).size = k * 5 := fun k => by
  have h5 : (Value.agg #[(.string ⟨#[]⟩), (.int .i64 0), (.slice none 0 0), (.slice none 0 0), (.int .u64 0)]).cells.size = 5 := rfl
  simp [Builtin.zeroCells, h5]
 obtain ⟨cur3, hR3⟩ := grow_row (i := i) (gs := gs) (x := x) (cx := cx) (Z1 := Builtin.zeroCells (Value.agg #[(.string ⟨#[]⟩), (.int .i64 0), (.slice none 0 0), (.slice none 0 0), (.int .u64 0)]).cells (n + 1 - i)) (Z2 := Builtin.zeroCells (Value.agg #[(.string ⟨#[]⟩), (.int .i64 0), (.slice none 0 0), (.slice none 0 0), (.int .u64 0)]).cells (gs - (n + 1))) h hi hcap hmx hx hok (hzs _) (hzs _)
 have hR3' : Row k40 (((w.drew.alloc (.cells ((own cur (i * 5)).toArray ++ Builtin.zeroCells (Value.agg #[(.string ⟨#[]⟩), (.int .i64 0), (.slice none 0 0), (.slice none 0 0), (.int .u64 0)]).cells (n + 1 - i) ++ Builtin.zeroCells (Value.agg #[(.string ⟨#[]⟩), (.int .i64 0), (.slice none 0 0), (.slice none 0 0), (.int .u64 0)]).cells (gs - (n + 1))) 40)).setCells w.heap.size (i * 5) cx).drew.setCells w.heap.size ((i + 1) * 5) ((own cur (n * 5)).drop (i * 5))) ok w.heap.size 40 (n + 1) gs (l.take i ++ [x] ++ l.drop i) cur3 := hR3
 obtain ⟨C0, hC0⟩ : ∃ C0, C0 = (own cur (i * 5)).toArray ++ Builtin.zeroCells (Value.agg #[(.string ⟨#[]⟩), (.int .i64 0), (.slice none 0 0), (.slice none 0 0), (.int .u64 0)]).cells (n + 1 - i) ++ Builtin.zeroCells (Value.agg #[(.string ⟨#[]⟩), (.int .i64 0), (.slice none 0 0), (.slice none 0 0), (.int .u64 0)]).cells (gs - (n + 1)) := ⟨_, rfl⟩
 have hC0s : C0.size = gs * 5 := by
  rw [hC0]
  simp only [Array.size_append, List.size_toArray, own_len h _ hiq, hzs]
  omega
 rw [← hC0] at hzr hR3'
 obtain ⟨W1, hW1⟩ : ∃ W1, W1 = w.drew.alloc (.cells C0 40) := ⟨_, rfl⟩
 rw [← hW1] at hzr hR3'
 have k1 : W1.heap[w.heap.size]? = some (.cells C0 40 (0, 0)) := by rw [hW1]; exact blk_new w.drew (.cells C0 40)
 have hB1 : Below w.heap.size w W1 := by rw [hW1]; exact below_alloc (below_drew (Below.refl _ _)) _
 have hone := own_one h
 have hc1 := run_copy_rows (P := Tryz.prog) W1 23 23 3 40 5 w.heap.size (i * 5) (n + 1 - i) (gs - i) ⟨vb, 0, none⟩ 1 1 1 cx Tryz.underlying23 size_T (by show 1 = min 1 (n + 1 - i); omega) (by rw [hcx])
  (fun j v hj => by
   rw [Addr.add_lit, Nat.zero_add]
   have h2 : w.cell? ⟨vb, j, none⟩ = some v := by rw [blk_cell hb j]; simpa using hj
   exact (hB1.cell (p := ⟨vb, j, none⟩) hvl).trans h2)
  (fun j hj => by rw [blk_cell k1 _, Array.getElem?_eq_getElem (by rw [hC0s]; omega)]; rfl)
  (fun j _ => blk_frozen k1 _) (k40.K_one (Kd.FK_now hx))
 rw [show (goInt ((1 : Nat) : Int)) = .int .i64 1 from rfl] at hc1
 obtain ⟨c2, k2, k2s, _⟩ := setCells_row cx (i * 5) W1 C0 k1 (by rw [hC0s]; omega)
 have hold : ((own cur (n * 5)).drop (i * 5)).length = (n - i) * 5 := by rw [List.length_drop, own_len h (n * 5) (Nat.le_refl _)]; omega
 have hc2 := run_copy_rows (P := Tryz.prog) (W1.setCells w.heap.size (i * 5) cx).drew 23 23 3 40 5 w.heap.size ((i + 1) * 5) (n - i) (gs - (i + 1)) ⟨g, i * 5, none⟩ (n - i) (cap - i) (n - i) ((own cur (n * 5)).drop (i * 5)) Tryz.underlying23 size_T (by show n - i = min (n - i) (n - i); omega) hold
  (fun j v hj => by
   rw [Addr.add_lit]
   rw [List.getElem?_drop] at hj
   have h2 := own_cell h _ _ v hj
   have h3 := (hB1.cell (p := ⟨g, i * 5 + j, none⟩) hgl).trans h2
   exact ((setCells_grown W1 w.heap.size (i * 5) cx).cell_far _ (World.block_lt_of_cell? _ _ h3) (fun e => by
    have e2 : g = w.heap.size := Option.some.inj e
    omega)).trans h3)
  (fun j hj => by rw [show (W1.setCells w.heap.size (i * 5) cx).drew.cell? ⟨w.heap.size, (i + 1) * 5 + j, none⟩ = _ from blk_cell k2 _, Array.getElem?_eq_getElem (by rw [k2s, hC0s]; omega)]; rfl)
  (fun j _ => blk_frozen k2 _) (fun v hv => hone v (List.mem_of_mem_drop hv))
 have HC2 := Aside0.mk hc2
 have b1 : Below base w W1 := ⟨hB1.os, hB1.tape, hB1.output, hB1.size, fun k hk => hB1.block k (by omega)⟩
 have b2 := b1.grown (setCells_grown W1 w.heap.size (i * 5) cx) (Nat.le_trans hbase b1.size) (fun k e => by cases e; exact hbase)
 have b3 := below_drew b2
 have b4 := b3.grown (setCells_grown _ w.heap.size ((i + 1) * 5) ((own cur (n * 5)).drop (i * 5))) (Nat.le_trans hbase b3.size) (fun k e => by cases e; exact hbase)
 have HE := Aside0.mk (And.intro hR3'.rd b4)
 have hzr' : (Builtin.append_ #[23, 3] 23 #[.slice (some ⟨g, 0, none⟩) i cap, .int .i64 ((n : Int) + 1 - (i : Int))]).run Tryz.prog w = .ok (.slice (some ⟨w.heap.size, 0, none⟩) (n + 1) gs) W1 := by
  rw [show ((n : Int) + 1 - (i : Int)) = ((n + 1 - i : Nat) : Int) by omega]
  exact hzr
 have HZ := Aside0.mk hzr'
 have hic : (i : Int) ≤ (cap : Int) := by have := h.le; omega
 have hcapi : ¬ cap = i := by have := h.le; omega
 clear hzr hzr' h hb hx hok hbase hinf hz hs hby hgs hW1 hR3 hR3' hC0 hC0s hone k1 k2 k2s hB1 b1 b2 b3 b4 hc2 hold hmx hzs hcx hvl hgl
 have hmix : Tryz.prog.follows Departure.mixedOrders = true := by kernel_rfl
 have hg1 : ¬ (gs = i) := by omega
 have hg2 : ¬ (gs = i + 1) := by omega
 have hu := Tryz.underlying40
 have hi0 : (0 : Int) ≤ (i : Int) := by omega
 have hi1 : (i : Int) ≤ (n : Int) := by omega
 have hi2 : (i : Int) ≤ (n : Int) + 1 := by omega
 have hi3 : (i : Int) + 1 ≤ (n : Int) + 1 := by omega
 have hi4 : (0 : Int) ≤ (i : Int) + 1 := by omega
 have hi5 : ((i : Int) + 1).toNat = i + 1 := by omega
 have hi6 : IntKind.i64.wrap ((i : Int) + 1) = (i : Int) + 1 := by rw [IntKind.wrap_i64]; omega
 have hi7 : n + 1 - (i + 1) = n - i := by omega
 have h0 : ((i : Int) == (n : Int)) = false := by rw [beq_eq_false_iff_ne]; omega
 go_enter Tryz.func52, Tryz.ntmps52
 go_wp2_with ((with_reducible refine gate_builtin (b := .append) (xs := #[.tmp 34, .tmp 39]) rfl ?_); at_builtin; refine wpList_append_run rfl (.tmp 34) (.tmp 39) 23 3 rfl rfl rfl HZ.out ?_)
 go_region_law_o (refine step_copy_runI rfl _ _ 23 23 rfl (.slice (some ⟨w.heap.size, (i + 1) * 5, none⟩) (n - i) (gs - (i + 1))) (.slice (some ⟨g, i * 5, none⟩) (n - i) (cap - i)) (by simp [Act.eval, Act.put]) (by simp [Act.eval, Act.put]) HC2.out ?_)
 go_wp2
 go_ret
 exact ⟨_, rfl, Kd.V_mono HE.out.1 (fun k hk => hk.imp id (fun e => by omega)), HE.out.2⟩
set_option maxRecDepth 100000 in
set_option maxHeartbeats 6400000 in
theorem insert_room {ok' : Nat → Prop} (w : World) (base g n cap i : Nat) (ok : Nat → Prop) (l : List T) (cur : Array Value) (x : T) (cx : List Value) (vb t : Nat) (h : Row k40 w ok g 40 n cap l cur) (hl : n ≤ 100) (hi : i < n) (hroom : n + 1 ≤ cap) (hb : w.heap[vb]? = some (.cells cx.toArray t (0, 0))) (hx : Kd.FK k40 w ok x cx) (hvb : vb ≠ g) (hbg : base ≤ g) (hokg : ok' g) (hoks : ∀ k, ok k → ok' k) (hbase : base ≤ w.heap.size) :
  Calls Tryz.prog 52 #[.slice (some ⟨g, 0, none⟩) n cap, .int .i64 i, .slice (some ⟨vb, 0, none⟩) 1 1] w (Ins w base ok' (l.take i ++ [x] ++ l.drop i)) := by
 have hgl : g < w.heap.size := blk_lt h.heap
 have hvl : vb < w.heap.size := blk_lt hb
 have hcx : cx.length = 5 := k40.K_len (Kd.FK_now hx)
 have hcs : cur.size = cap * 5 := h.size
 have hone := own_one h
 have hov : ∀ n c, (callFunc 95 #[.slice (some ⟨vb, 0, none⟩) 1 1, .slice (some ⟨g, (i + 1) * 5, none⟩) n c]).run Tryz.prog w = .ok (.value (.bool false)) w := fun n c => by
  rw [run_callFunc_extern Tryz.func95 (by kernel_rfl) (by kernel_rfl) (by kernel_rfl) (e := Extern.SlicesOverlaps.overlaps #[23, 23] #[4]) (by kernel_rfl),
   Lib.run_overlaps_apart (P := Tryz.prog) w 23 4 40 Tryz.underlying23 5 (fun w => by
    obtain ⟨i, hi, _, hs, _⟩ := info
    simp [sizeOf, typeInfo, hi, hs]) ⟨vb, 0, none⟩ ⟨g, (i + 1) * 5, none⟩ 1 1 n c hvb t 40 cx.toArray.size cur.size (by simp [World.shape?, hb]) (by simp [World.shape?, h.heap]) (by omega) (blk_frozen hb 0) (blk_frozen hb cx.toArray.size)]
  rfl
 obtain ⟨cur3, hR3⟩ := room_row (i := i) (x := x) (cx := cx) h (by omega) hroom hx
 have hR3' : Row k40 ((w.drew.setCells g ((i + 1) * 5) ((own cur (n * 5)).drop (i * 5))).setCells g (i * 5) cx) ok g 40 (n + 1) cap (l.take i ++ [x] ++ l.drop i) cur3 := hR3
 have hold : ((own cur (n * 5)).drop (i * 5)).length = (n - i) * 5 := by rw [List.length_drop, own_len h (n * 5) (Nat.le_refl _)]; omega
 have atw : ∀ j, j < cap * 5 → (w.cell? ⟨g, j, none⟩).isSome = true := fun j hj => h.cell j hj
 have hc1 := run_copy_rows (P := Tryz.prog) w.drew 23 23 3 40 5 g ((i + 1) * 5) (n - i) (cap - (i + 1)) ⟨g, i * 5, none⟩ (n + 1 - i) (cap - i) (n - i) ((own cur (n * 5)).drop (i * 5)) Tryz.underlying23 size_T (by show n - i = min (n + 1 - i) (n - i); omega) hold
  (fun j v hj => by
   rw [Addr.add_lit]
   rw [List.getElem?_drop] at hj
   exact own_cell h _ _ v hj)
  (fun j hj => by rw [hold] at hj; exact atw _ (by omega))
  (fun j _ => h.thaw _) (fun v hv => hone v (List.mem_of_mem_drop hv))
 have hc2 := run_copy_rows (P := Tryz.prog) (w.drew.setCells g ((i + 1) * 5) ((own cur (n * 5)).drop (i * 5))) 23 23 3 40 5 g (i * 5) (n + 1 - i) (cap - i) ⟨vb, 0, none⟩ 1 1 1 cx Tryz.underlying23 size_T (by show 1 = min 1 (n + 1 - i); omega) (by rw [hcx])
  (fun j v hj => by
   rw [Addr.add_lit, Nat.zero_add, World.cell?_setCells_out _ _ _ _ _ (fun e _ => absurd e hvb)]
   show w.cell? _ = _
   rw [blk_cell hb j]
   simpa using hj)
  (fun j hj => by
   rw [hcx] at hj
   rw [World.cell?_setCells_out _ _ _ _ _ (fun _ _ => .inl (by show i * 5 + j < (i + 1) * 5; omega))]
   exact atw _ (by omega))
  (fun j _ => by rw [World.frozen?_setCells]; exact h.thaw _) (k40.K_one (Kd.FK_now hx))
 rw [show (goInt ((1 : Nat) : Int)) = .int .i64 1 from rfl] at hc2
 have b1 : Below base w w.drew := below_drew (Below.refl _ _)
 have b2 := b1.grown (setCells_grown w.drew g ((i + 1) * 5) ((own cur (n * 5)).drop (i * 5))) hbase (fun k e => by cases e; exact hbg)
 have b3 := b2.grown (setCells_grown _ g (i * 5) cx) (Nat.le_trans hbase b2.size) (fun k e => by cases e; exact hbg)
 have HE := Aside0.mk (And.intro hR3'.rd b3)
 have HC1 := Aside0.mk hc1
 have HOG := Aside0.mk (And.intro hokg hoks)
 have hmix : Tryz.prog.follows Departure.mixedOrders = true := by kernel_rfl
 clear h hb hx hone hR3 hR3' hold atw hc1 b1 b2 b3 hcx hcs hvl hgl hokg hoks hbase hbg
 have hu := Tryz.underlying40
 have hg1 : ¬ (cap = i) := by omega
 have hg2 : ¬ (cap = i + 1) := by omega
 have hg3 : ¬ (cap < n + 1) := by omega
 have hg4 : (0 : Int) ≤ (n : Int) + 1 := by omega
 have hg5 : (n : Int) + 1 ≤ (cap : Int) := by omega
 have hg6 : ((n : Int) + 1).toNat = n + 1 := by omega
 have hi0 : (0 : Int) ≤ (i : Int) := by omega
 have hi1 : (i : Int) ≤ (n : Int) := by omega
 have hi2 : (i : Int) ≤ (n : Int) + 1 := by omega
 have hi3 : (i : Int) + 1 ≤ (n : Int) + 1 := by omega
 have hi4 : (0 : Int) ≤ (i : Int) + 1 := by omega
 have hi5 : ((i : Int) + 1).toNat = i + 1 := by omega
 have hi6 : IntKind.i64.wrap ((i : Int) + 1) = (i : Int) + 1 := by rw [IntKind.wrap_i64]; omega
 have hi7 : n + 1 - (i + 1) = n - i := by omega
 have hi8 : (i : Int) + 1 ≤ (n : Int) := by omega
 have h0 : ((i : Int) == (n : Int)) = false := by rw [beq_eq_false_iff_ne]; omega
 go_enter Tryz.func52, Tryz.ntmps52
 go_wp2
 go_region_law_o (refine step_copy_runI rfl _ _ 23 23 rfl (.slice (some ⟨g, (i + 1) * 5, none⟩) (n - i) (cap - (i + 1))) (.slice (some ⟨g, i * 5, none⟩) (n + 1 - i) (cap - i)) (by simp [Act.eval, Act.put]) (by simp [Act.eval, Act.put]) HC1.out ?_)
 go_wp2
 go_ret
 refine ⟨_, rfl, Kd.V_mono HE.out.1 ?_, HE.out.2⟩
 rintro k (hk | rfl)
 ·exact .inl (HOG.out.2 k hk)
 ·exact .inl HOG.out.1
theorem insert_any (w : World) (base i : Nat) (ok okp : Nat → Prop) (v : Value) (l : List T) (x : T) (cx : List Value) (vb t : Nat) (h : Kd.N k40 40 w base ok v l) (hl : l.length ≤ 100) (hi : i ≤ l.length) (hb : w.heap[vb]? = some (.cells cx.toArray t (0, 0))) (hx : Kd.FK k40 w okp x cx) (hok : ∀ k, okp k ∨ k = vb → ok k ∧ some k ≠ v.ownBlock) (hbase : base ≤ w.heap.size) :
  Calls Tryz.prog 52 #[v, .int .i64 i, .slice (some ⟨vb, 0, none⟩) 1 1] w (Ins w base ok (l.take i ++ [x] ++ l.drop i)) := by
 by_cases he : i = l.length
 ·subst he
  rw [List.take_length, List.drop_length, List.append_nil]
  exact insert_end w base ok okp v l x cx vb t h hl hb hx hok hbase
 ·have hbd := Kd.N_bound h
  obtain ⟨g, cap, rfl, hg, hgl, -⟩ := Kd.N_form hbd (by omega)
  obtain ⟨_, cur, hR⟩ := Row.of_N hbd
  have hog : ok g := h.1 g rfl
  have hx2 : Kd.FK k40 w (fun k => (ok k ∧ k < w.heap.size) ∧ k ≠ g) x cx := Kd.FK_mono (Kd.FK_bound hx) (fun k hk => ⟨⟨(hok k (.inl hk.1)).1, hk.2⟩, fun e => (hok k (.inl hk.1)).2 (by rw [e]; rfl)⟩)
  by_cases hroom : l.length + 1 ≤ cap
  ·exact insert_room (ok' := ok) w base g l.length cap i _ l cur x cx vb t hR hl (by omega) hroom hb hx2 (fun e => (hok vb (.inr rfl)).2 (by rw [e]; rfl)) hg hog (fun k hk => hk.1.1) hbase
  ·refine (insert_grow w base g l.length cap i _ l cur x cx vb t hR hl (by omega) (by omega) hb hx2 (fun k hk => hk.1.2) hbase).mono ?_
   rintro e w' ⟨v', h1, h2, h3⟩
   exact ⟨v', h1, Kd.V_mono h2 (fun k hk => hk.imp (fun h => h.1.1) id), h3⟩
end Go.Proofs.YtpccbmechgkogaaGreatDoor.InsB
