/-
  Lemmas: Bldr, IxJ, TagMany.
-/
import Derived.WalkKit
import Derived.Lib.Walk
import Derived.Lib.AppendStr
import Derived.Lib.OthersKept
import Derived.Outline
import Derived.Test.YtpccbmechgkogaaGreatDoorProg
import Derived.LoopTactic
import Derived.Test.YtpccbmechgkogaaGreatDoorV0
import Derived.Test.YtpccbmechgkogaaGreatDoorZ00
import Derived.Test.YtpccbmechgkogaaGreatDoorZ01
import Derived.Test.YtpccbmechgkogaaGreatDoorZ21
import Derived.Test.YtpccbmechgkogaaGreatDoorZ22
import Derived.Test.YtpccbmechgkogaaGreatDoorZ23
set_option linter.unusedVariables false
set_option linter.unusedSimpArgs false
namespace Go.Proofs.YtpccbmechgkogaaGreatDoor.Bldr
open Go.RowKit Go.Proofs.YtpccbmechgkogaaGreatDoorW.PrintWords
abbrev tBd : Nat := 233
abbrev tU8 : Nat := 5
theorem infoB : (Tryz.prog.info? 233).map (·.size) = some 2 := by kernel_rfl
theorem liesB : liesAt Tryz.prog Tryz.prog.depth 233 (2 / Tryz.prog.cellsOf 233) 0 233 1 = true := by kernel_rfl
theorem infoU8 : (Tryz.prog.info? 5).map (fun i => (i.zero, i.size, i.bytes)) = some (some (.int .u8 0), 1, 1) := by kernel_rfl
set_option maxHeartbeats 1000000 in
set_option maxRecDepth 100000 in
theorem copyCheck_used (b : Nat) (w : World) (h0 : w.cell? ⟨b, 0, none⟩ = some (.pointer (some ⟨b, 0, none⟩))) :
  Calls Tryz.prog 188 #[.pointer (some ⟨b, 0, none⟩)] w fun e w' => e = .returned (.tuple #[]) ∧ w' = w := by
 obtain ⟨j, hj, _⟩ := Option.map_eq_some_iff.1 infoB
 have hu := Tryz.underlying233
 have hup := Tryz.underlying231
 go_enter Tryz.func188, Tryz.ntmps188
 go_wp2
 rw [Lib.run_neq_ptr_same w _ hup hj]
 go_wp2
 go_end0
 exact ⟨rfl, rfl⟩
set_option maxHeartbeats 1000000 in
set_option maxRecDepth 100000 in
theorem copyCheck_fresh (b : Nat) (w : World) (h0 : w.cell? ⟨b, 0, none⟩ = some (.pointer none)) (hsh : w.shape? b = some (tBd, 2)) (hfz : w.frozen? ⟨b, 0, none⟩ = false) :
  Calls Tryz.prog 188 #[.pointer (some ⟨b, 0, none⟩)] w fun e w' => e = .returned (.tuple #[]) ∧ w' = w.setCell ⟨b, 0, none⟩ (.pointer (some ⟨b, 0, none⟩)) := by
 obtain ⟨j, hj, hjs⟩ := Option.map_eq_some_iff.1 infoB
 have hu := Tryz.underlying233
 have hup := Tryz.underlying231
 have hus := Tryz.underlying266
 go_enter Tryz.func188, Tryz.ntmps188
 go_wp2
 rw [Lib.run_to_unsafe w ⟨b, 0, none⟩ hup hus hj (by rw [hjs]; decide) hsh (Nat.zero_lt_succ 1)]
 simp only [Result.andThen]
 rw [Oper.upon_value]
 go_wp2
 rw [run_callFunc_extern Tryz.func203 (by kernel_rfl) (by kernel_rfl) (by kernel_rfl) (e := Extern.AbiNoEscape.same) (by kernel_rfl)]
 rw [Lib.run_noEscape]
 simp only [Result.andThen]
 rw [Oper.upon_value]
 go_wp2
 rw [Lib.run_from_unsafe w ⟨b, 0, none⟩ hus hup hj hsh liesB]
 simp only [Result.andThen]
 rw [Oper.upon_value]
 go_wp2
 go_end0
 exact ⟨rfl, rfl⟩
theorem own_kind {w : World} {B : Nat} {e : TypeId} {v : Value} {n : Nat} {xs : List Value} (h : w.ownsRow B e 1 v n xs) : ∀ g, v.ownBlock = some g → ∃ c fz, w.heap[g]? = some (.cells c e fz) := by
 intro g hg
 rcases h.2 with ⟨rfl, _⟩ | ⟨g', cap, cur, rfl, _, hh, _⟩
 ·simp [Value.ownBlock] at hg
 ·have : g' = g := by simpa [Value.ownBlock] using hg
  subst this
  exact ⟨_, _, hh⟩
theorem copyCheck_any (B b : Nat) (bs : List Value) (w : World) (h : Lib.IsBuilder tBd tU8 B b bs w) :
  Calls Tryz.prog 188 #[.pointer (some ⟨b, 0, none⟩)] w fun e w' => e = .returned (.tuple #[]) ∧ (Lib.BuilderAt tBd tU8 B b (.pointer (some ⟨b, 0, none⟩)) bs w' ∧ Below B w w' ∧ Lib.OthersKept tU8 (some b) w w') := by
 rcases h with h | h
 ·refine (copyCheck_fresh b w h.cell0 h.shape h.frozen0).mono ?_
  rintro e w' ⟨rfl, rfl⟩
  exact ⟨rfl, h.used _, (Below.refl B w).setCell (p := ⟨b, 0, none⟩) h.1 _, (Lib.OthersKept.refl _ _ w).setCell ⟨b, 0, none⟩ rfl _⟩
 ·refine (copyCheck_used b w h.cell0).mono ?_
  rintro e w' ⟨rfl, rfl⟩
  exact ⟨rfl, h, Below.refl B _, Lib.OthersKept.refl _ _ _⟩
set_option maxHeartbeats 2000000 in
set_option maxRecDepth 100000 in
theorem write_any (B b : Nat) (bs : List Value) (s : ByteArray) (w : World) (h : Lib.IsBuilder tBd tU8 B b bs w) (hlen : bs.length + s.size ≤ 140737488355328) (hBw : B ≤ w.heap.size) :
  Calls Tryz.prog 158 #[.pointer (some ⟨b, 0, none⟩), .string s] w fun e w' => e = .returned (.tuple #[.int .i64 s.size, .nilIface]) ∧ (Lib.BuilderAt tBd tU8 B b (.pointer (some ⟨b, 0, none⟩)) (bs ++ Lib.strCells s) w' ∧ Below B w w' ∧ Lib.OthersKept tU8 (some b) w w') := by
 obtain ⟨i0, hi, hz0, hz1, hz2⟩ := info_parts infoU8
 have hu := Tryz.underlying233
 go_enter Tryz.func158, Tryz.ntmps158
 go_wp2_with (go_at_call 188; refine (copyCheck_any B b bs _ h).mono ?_)
 rintro e w1 ⟨rfl, h1, hb1, hk1⟩
 obtain ⟨hB, v, hbk, hown, hne⟩ := h1
 have c0 : w1.cell? ⟨b, 0, none⟩ = some (.pointer (some ⟨b, 0, none⟩)) := by rw [Lib.cell_of_heap hbk]; rfl
 have c1 : w1.cell? ⟨b, 1, none⟩ = some v := by rw [Lib.cell_of_heap hbk]; rfl
 go_wp2_with (at_builtin; refine Lib.wpList_append_own_string _ rfl _ _ 94 9 rfl B 5 i0 Tryz.underlying94 Tryz.underlying9 hi hz0 hz1 hz2 _ _ _ rfl hown s rfl ?c3 ?c4 ?c5 ?_)
 case c3 => unfold maxLen; omega
 case c4 => omega
 case c5 => have := hb1.size; omega
 intro v' w2 hown' hgrow _
 have hlt : b < w1.heap.size := by
  rcases Nat.lt_or_ge b w1.heap.size with h' | h'
  ·exact h'
  ·simp [Array.getElem?_eq_none h'] at hbk
 have hb2 : w2.heap[b]? = some (.cells #[.pointer (some ⟨b, 0, none⟩), v] 233 (0, 0)) := by
  rw [hgrow.block b hlt (fun e => hne e.symm)]
  exact hbk
 have d0 : w2.cell? ⟨b, 0, none⟩ = some (.pointer (some ⟨b, 0, none⟩)) := by rw [Lib.cell_of_heap hb2]; rfl
 have d1 : w2.cell? ⟨b, 1, none⟩ = some v := by rw [Lib.cell_of_heap hb2]; rfl
 have f1 : w2.frozen? ⟨b, 1, none⟩ = false := Lib.frozen_of_heap hb2 1
 obtain ⟨ao, n', cap, rfl⟩ : ∃ ao n' cap, v' = .slice ao n' cap := by
  rcases hown'.2 with ⟨hv, _⟩ | ⟨g, cap, cur, hv, _⟩
  ·exact ⟨_, _, _, hv⟩
  ·exact ⟨_, _, _, hv⟩
 go_wp2
 go_ret2
 refine ⟨rfl, ?_, ?_, ?_⟩
 ·exact Lib.BuilderAt.put (T := 233) (e := 5) hB hb2 (bs' := bs ++ Lib.strCells s) (by simpa [Lib.strCells_length] using hown') (by decide)
 ·exact (hb1.grown hgrow (by have := hb1.size; omega) (fun k hk => (hown.lt k hk).1)).setCell (p := ⟨b, 1, none⟩) hB _
 ·exact (hk1.grown hgrow (own_kind hown)).setCell ⟨b, 1, none⟩ rfl _
theorem at_below {B b : Nat} {p : Value} {bs : List Value} {w w1 : World} (h : Lib.BuilderAt tBd tU8 B b p bs w) (hb : Below w.heap.size w w1) : Lib.BuilderAt tBd tU8 B b p bs w1 := by
 obtain ⟨hB, v, hh, ho, hne⟩ := h
 exact ⟨hB, v, blk_below hh hb, pw_own_below ho hb, hne⟩
theorem is_below {B b : Nat} {bs : List Value} {w w1 : World} (h : Lib.IsBuilder tBd tU8 B b bs w) (hb : Below w.heap.size w w1) : Lib.IsBuilder tBd tU8 B b bs w1 := h.imp (fun h => at_below h hb) (fun h => at_below h hb)
theorem at_row {B B' b n e : Nat} {p v' : Value} {bs xs : List Value} {w w1 : World} (h : Lib.BuilderAt tBd tU8 B b p bs w) (hg : w.grownBy w1 v'.ownBlock) (ho' : w.ownsRow B' e 1 v' n xs) (h1 : tU8 ≠ e) (h2 : tBd ≠ e) : Lib.BuilderAt tBd tU8 B b p bs w1 := by
 obtain ⟨hB, v, hh, ho, hne⟩ := h
 refine ⟨hB, v, (hg.block b (Array.getElem?_eq_some_iff.1 hh).1 (fun q => ?_)).trans hh, own_other ho hg (own_type_ne ho ho' h1), hne⟩
 rcases ho'.2 with ⟨rfl, _⟩ | ⟨g, cap, cur, rfl, _, hh', _⟩
 ·simp [Value.ownBlock] at q
 ·have : b = g := by simpa [Value.ownBlock] using q
  subst this
  rw [hh] at hh'
  injection hh' with hh'
  injection hh' with _ ht
  exact h2 ht
theorem is_row {B B' b n e : Nat} {v' : Value} {bs xs : List Value} {w w1 : World} (h : Lib.IsBuilder tBd tU8 B b bs w) (hg : w.grownBy w1 v'.ownBlock) (ho' : w.ownsRow B' e 1 v' n xs) (h1 : tU8 ≠ e) (h2 : tBd ≠ e) : Lib.IsBuilder tBd tU8 B b bs w1 := h.imp (fun h => at_row h hg ho' h1 h2) (fun h => at_row h hg ho' h1 h2)
theorem own_kept {B n e b : Nat} {v : Value} {xs : List Value} {w w1 : World} (h : w.ownsRow B e 1 v n xs) (hk : Lib.OthersKept tU8 (some b) w w1) (hb : ∃ cs, w.heap[b]? = some (.cells cs tBd (0, 0))) (h1 : e ≠ tU8) (h2 : e ≠ tBd) : w1.ownsRow B e 1 v n xs := by
 refine ⟨h.1, h.2.imp id ?_⟩
 rintro ⟨g, cap, cur, hv, hB, hh, hr⟩
 refine ⟨g, cap, cur, hv, hB, hk g _ hh (fun q => ?_) (fun c fz q => ?_), hr⟩
 ·obtain ⟨cs, hc⟩ := hb
  have := Option.some.inj q
  subst this
  rw [hh] at hc
  injection hc with hc
  injection hc with _ ht
  exact h2 ht
 ·injection q with _ ht
  exact h1 ht
theorem is_blk {B b : Nat} {bs : List Value} {w : World} (h : Lib.IsBuilder tBd tU8 B b bs w) : ∃ cs, w.heap[b]? = some (.cells cs tBd (0, 0)) := by
 rcases h with ⟨_, v, hb, _⟩ | ⟨_, v, hb, _⟩
 ·exact ⟨_, hb⟩
 ·exact ⟨_, hb⟩
end Go.Proofs.YtpccbmechgkogaaGreatDoor.Bldr
namespace Go.Proofs.YtpccbmechgkogaaGreatDoor.IxJ
open Go.RowKit Go.Proofs.YtpccbmechgkogaaGreatDoor.P Go.Proofs.YtpccbmechgkogaaGreatDoorW.PrintWords Go.Proofs.YtpccbmechgkogaaGreatDoor.IdxG
abbrev T := S228
def Tells (g : Nat) (fa : Value) (p : T → Bool) (w : World) (l : List T) : Prop :=
 ∀ (W : World) (x : T), x ∈ l → Below w.heap.size w W →
  Calls Tryz.prog g #[fa, .agg #[.int .i64 x.f0, .int .u32 x.f1]] W fun e w' => e = .returned (.bool (p x)) ∧ Below W.heap.size W w'
set_option maxRecDepth 100000 in
set_option maxHeartbeats 1600000 in
theorem index_any (g : Nat) (fa : Value) (eg : ∀ args w, (callFunc g args).run Tryz.prog w = .ok (.enter g args) w) (p : T → Bool) (A : Option Addr) (c : Nat) (l : List T) (w : World)
  (hr : Kd.C k228 w A l.length l) (hg : Tells g fa p w l) :
  Calls Tryz.prog 185 #[.slice A l.length c, .func (.func g) #[fa] #[]] w (IdxPost w (idx p l)) := by
 have HR := Aside0.mk hr
 have HG := Aside0.mk hg
 have hm : l.length ≤ 9223372036854775807 := hr.2.1
 clear hr hg
 have hu := Tryz.underlying228
 go_enter Tryz.func185, Tryz.ntmps185
 go_wp2
 go_loopw [8] (fun i wr => ∃ k : Nat, k ≤ l.length ∧ i = .int .i64 k ∧ Aside0 (∀ j (h : j < l.length), j < k → p l[j] = false) ∧ Aside0 (Below w.heap.size w wr)) (fun i _ => l.length - (intOf i).toNat)
 case atStart => exact ⟨0, by omega, rfl, ⟨fun j _ h => absurd h (Nat.not_lt_zero _)⟩, ⟨Below.refl _ _⟩⟩
 case round =>
  obtain ⟨k, hk, rfl, HA, HB⟩ := hrel
  by_cases hlt : k < l.length
  ·obtain ⟨ad, e0, h0, h1⟩ := at_T228 (Kd.C_below HR.out HB.out) (k : Int) (by omega) (by omega)
   have hx : rd_T228 l (k : Int) = l[k] := by unfold rd_T228; rw [Int.toNat_natCast, List.getD_eq_getElem?_getD, List.getElem?_eq_getElem hlt]; rfl
   rw [hx] at h0 h1
   rw [Int.toNat_natCast] at h0 h1
   cases e0
   have hcall := HG.out wr l[k] (List.getElem_mem hlt) HB.out
   have HX := Aside0.mk hx
   clear hx
   generalize hq : p l[k] = q at hcall
   have HQ := Aside0.mk hq
   clear hq
   cases q with
   | true =>
    go_wp2_with fail
    refine hcall.mono ?_
    rintro e w2 ⟨rfl, hb'⟩
    have HB2 := Aside0.mk hb'
    clear hb'
    go_wp2
    go_ret
    exact ⟨congrArg (fun z => Ending.returned (Value.int .i64 z)) (idx_hit p l k hlt HQ.out HA.out).symm, below_step HB.out HB2.out⟩
   | false =>
    go_wp2_with fail
    refine hcall.mono ?_
    rintro e w2 ⟨rfl, hb'⟩
    have HB2 := Aside0.mk hb'
    clear hb'
    go_wp2
    refine ⟨⟨k + 1, by omega, by go_num, ⟨fun j h hj => ?_⟩, ⟨below_step HB.out HB2.out⟩⟩, by simp [intOf]; omega⟩
    by_cases e : j = k
    ·subst e; exact HQ.out
    ·exact HA.out j h (by omega)
  ·have hk2 : k = l.length := by omega
   subst hk2
   go_wp2
   go_ret
   exact ⟨congrArg (fun z => Ending.returned (Value.int .i64 z)) (idx_miss p l (fun j h => HA.out j h h)).symm, HB.out⟩
set_option maxRecDepth 100000 in
set_option maxHeartbeats 1600000 in
theorem contains_any (g : Nat) (fa : Value) (eg : ∀ args w, (callFunc g args).run Tryz.prog w = .ok (.enter g args) w) (p : T → Bool) (A : Option Addr) (c : Nat) (l : List T) (w : World)
  (hr : Kd.C k228 w A l.length l) (hg : Tells g fa p w l) :
  Calls Tryz.prog 155 #[.slice A l.length c, .func (.func g) #[fa] #[]] w fun e w' => e = .returned (.bool (l.any p)) ∧ Below w.heap.size w w' := by
 have C := index_any g fa eg p A c l w hr hg
 rw [← idx_any]
 clear hr hg eg
 go_enter Tryz.func155, Tryz.ntmps155
 go_wp2_with fail
 refine C.mono ?_
 rintro e w1 ⟨rfl, hb⟩
 have HB := Aside0.mk hb
 clear hb C
 go_wp2
 go_ret
 exact ⟨rfl, HB.out⟩
end Go.Proofs.YtpccbmechgkogaaGreatDoor.IxJ
namespace Go.Proofs.YtpccbmechgkogaaGreatDoor.TagMany
open Go.RowKit Go.Proofs.YtpccbmechgkogaaGreatDoor.P Go.Proofs.YtpccbmechgkogaaGreatDoorW.PrintWords Go.Proofs.YtpccbmechgkogaaGreatDoorW.PrintLast Go.Proofs.YtpccbmechgkogaaGreatDoorW.PrintMore
attribute [local go_sem] max2_int min2_int max_two min_two max_three min_three max_four min_four
def octs.f (a0 : Int) : Option (ByteArray) := some (strOfNums (([(a0 / 16777216) % 256, (a0 / 65536) % 256, (a0 / 256) % 256, (a0) % 256] : List Int)))
set_option maxHeartbeats 8000000 in
set_option maxRecDepth 100000 in
theorem octs.calls (a0 : Int) (r : ByteArray) (w : World) (h : octs.f a0 = some r) :
  Calls Tryz.prog 189 #[.int .u32 a0] w fun e w' => e = .returned (.string r) ∧ Below w.heap.size w w' := by
 have HB := Aside0.mk (Below.refl w.heap.size w)
 have H : (some (strOfNums (([(a0 / 16777216) % 256, (a0 / 65536) % 256, (a0 / 256) % 256, (a0) % 256] : List Int)))) = some r := h
 clear h
 obtain ⟨y324, hy324⟩ : ∃ y_ : List Int, y_ = (([(a0 / 16777216) % 256, (a0 / 65536) % 256, (a0 / 256) % 256, (a0) % 256] : List Int)) := ⟨_, rfl⟩
 replace H : (some (strOfNums y324)) = some r := by first | (rw [hy324]; with_reducible exact H) | (have H2_ := (Option.bind_some _ _).symm.trans H; rw [hy324]; with_reducible exact H2_) | (have H2_ := (Option.bind_some _ _).symm.trans H; with_reducible exact H2_) | with_reducible exact H | (rw [hy324]; exact H) | exact H
 have Ny324 := Aside0.mk hy324
 clear hy324
 obtain rfl := Option.some.inj H
 go_enter Tryz.func189, Tryz.ntmps189
 go_wp2_with (first | ((with_reducible refine gate_dst (N := 14) rfl ?_); refine Kd.R_lit (Kd.int .u8) _ 5 ?hg (N := 14) ?hd (xs := ([(a0 / 16777216) % 256, (a0 / 65536) % 256, (a0 / 256) % 256, (a0) % 256] : List Int)) (inner := [.int .u8 ((a0 / 16777216) % 256), .int .u8 ((a0 / 65536) % 256), .int .u8 ((a0 / 256) % 256), .int .u8 ((a0) % 256)]) (ok := fun _ => True) (okp := fun _ => True) ?hr ?hp (fun _ hk => hk) trivial (Below.refl _ _) (Nat.le_refl _) (by simp) ?_; (case hd => rfl); (case hg => rfl); (case hr => first | (go_simp; done) | (go_simp; rfl)); (case hp => exact (Reps.one (show Kd.M (Kd.int .u8) _ _ _ ((a0 / 16777216) % 256) [.int .u8 ((a0 / 16777216) % 256)] from rfl) (Reps.one (show Kd.M (Kd.int .u8) _ _ _ ((a0 / 65536) % 256) [.int .u8 ((a0 / 65536) % 256)] from rfl) (Reps.one (show Kd.M (Kd.int .u8) _ _ _ ((a0 / 256) % 256) [.int .u8 ((a0 / 256) % 256)] from rfl) (Reps.one (show Kd.M (Kd.int .u8) _ _ _ ((a0) % 256) [.int .u8 ((a0) % 256)] from rfl) (Reps.none _ _)))))); intro v325 w2 ho3 hb hg_ hnew_; clear hg_ hnew_; (first | rw [← Ny324.out] at ho3 | (simp only [Int.reduceToNat] at ho3; rw [← Ny324.out] at ho3)); have n0_ := Aside0.mk (Kd.R_lower ho3 (below_size (by repeat (first | (with_reducible first | exact HB.out | apply below_alloc | apply pw_below_drewN | apply below_drew1) | exact HB.out)))); have n1_ := Aside0.mk (below_step (by repeat (first | (with_reducible first | exact HB.out | apply below_alloc | apply pw_below_drewN | apply below_drew1) | exact HB.out)) hb); clear HB; have HO326 := n0_; have HB := n1_; clear n0_ n1_; clear hb ho3; have hcv4 := own_string (P := Tryz.prog) Tryz.underlying94 Tryz.underlying5 Tryz.underlying9 (Kd.own_of_R HO326.out)))
 go_ret
 exact ⟨by first | rfl | (simp [errW_none, errW_some] <;> rfl) | (simp [*, errW_none, errW_some] <;> rfl), by repeat (first | (with_reducible first | exact HB.out | apply below_alloc | apply pw_below_drewN | apply below_drew1) | exact HB.out)⟩
def Some2 (w : World) (en : Ending) (w' : World) : Prop := ∃ (s : ByteArray) (er : Int), en = .returned (.tuple #[.string s, .int .i64 er]) ∧ Below w.heap.size w w'
theorem octs_size (a : Int) : (strOfNums (([(a / 16777216) % 256, (a / 65536) % 256, (a / 256) % 256, (a) % 256] : List Int))).size ≤ 9223372036854775807 := by
 simp [strOfNums, ByteArray.size]
theorem step_any (c t : Int) (w : World) (h0 : 0 ≤ c) (h1 : c < 4294967296) : ∃ c' : Int, 0 ≤ c' ∧ c' < 4294967296 ∧ ∀ w : World, Calls Tryz.prog 43 #[.int .u32 c, .string (strOfNums (([(t / 16777216) % 256, (t / 65536) % 256, (t / 256) % 256, (t) % 256] : List Int)))] w fun e w' => e = .returned (.int .u32 c') ∧ Below w.heap.size w w' := by
 refine ⟨_, ?_, ?_, fun w => tag_More.calls c _ _ w (by unfold tag_More.f; rw [if_pos ⟨h0, h1, octs_size t⟩])⟩
 ·exact Int.natCast_nonneg _
 ·unfold TagNat.more
  have := TagNat.no_lt (TagNat.run (TagNat.no c.toNat) ((strOfNums (([(t / 16777216) % 256, (t / 65536) % 256, (t / 256) % 256, (t) % 256] : List Int))).data.toList.map UInt8.toNat))
  omega
theorem dec_small (n : Nat) (h : n < 100) : (⟨(Lib.decDigits n).toArray⟩ : ByteArray).size ≤ 2 := by
 have : ∀ n : Fin 100, (Lib.decDigits n.1).length ≤ 2 := by decide +kernel
 have := this ⟨n, h⟩
 simpa [ByteArray.size] using this
set_option maxRecDepth 100000 in
set_option maxHeartbeats 3200000 in
theorem many_any (A : Option Addr) (c : Nat) (l : List Int) (w : World) (hr : Kd.C (Kd.int .u32) w A l.length l) (hc : l.length ≤ c) (hl : l.length < 100) : Calls Tryz.prog 160 #[.slice A l.length c] w (Some2 w) := by
 have HR := Aside0.mk hr
 have HL := Aside0.mk hl
 have HB := Aside0.mk (Below.refl w.heap.size w)
 clear hr hc
 by_cases h0 : l.length = 0
 ·have d1 : ((l.length : Int) == 0) = true := by rw [beq_iff_eq]; omega
  clear h0 hl
  go_enter Tryz.func160, Tryz.ntmps160
  go_wp2
  (try rw [d1])
  go_wp2
  go_ret2
  exact ⟨_, _, rfl, HB.out⟩
 ·have d1 : ((l.length : Int) == 0) = false := by rw [beq_eq_false_iff_ne]; omega
  have d2 : decide ((l.length : Int) > 100) = false := by rw [decide_eq_false_iff_not]; omega
  clear h0 hl
  go_enter Tryz.func160, Tryz.ntmps160
  go_wp2
  (try rw [d1])
  (try rw [d2])
  go_wp2
  clear d1 d2
  go_loopw [4, 17] (fun v4 v17 wr => ∃ (cv : Int) (k : Nat), v4 = .int .u32 cv ∧ v17 = .int .i64 k ∧ k ≤ l.length ∧ Aside0 (0 ≤ cv ∧ cv < 4294967296) ∧ Aside0 (Below w.heap.size w wr)) (fun _ v17 _ => l.length - (intOf v17).toNat)
  case atStart => exact ⟨0, 0, rfl, rfl, Nat.zero_le _, ⟨by decide⟩, HB⟩
  case round =>
   clear HB
   obtain ⟨cv, k, rfl, rfl, hk, HC, HB⟩ := hrel
   by_cases hlt : k < l.length
   ·have d3 : decide ((k : Int) < (l.length : Int)) = true := by rw [decide_eq_true_iff]; omega
    obtain ⟨ad, hA, hcell⟩ := Kd.at_int (Kd.C_below HR.out HB.out) (k : Int) (by omega) (by omega)
    subst hA
    obtain ⟨t, ht⟩ : ∃ t, t = rd l (k : Int) := ⟨_, rfl⟩
    rw [← ht, Int.toNat_natCast] at hcell
    clear ht
    obtain ⟨c', hc0, hc1, C2⟩ := step_any cv t w HC.out.1 HC.out.2
    have HC' := Aside0.mk (And.intro hc0 hc1)
    have CO := fun W => octs.calls t _ W rfl
    have j0 : (0 : Int) ≤ (k : Int) := by omega
    have j1 : (k : Int) < (l.length : Int) := by omega
    have HK := Aside0.mk hlt
    have hw : IntKind.i64.wrap ((k : Int) + 1) = ((k + 1 : Nat) : Int) := by rw [IntKind.wrap_i64]; have := HL.out; omega
    clear hc0 hc1 hlt hk
    go_wp2_with fail
    refine (CO _).mono ?_
    rintro en w2 ⟨rfl, hb2⟩
    have HB2 := Aside0.mk (below_step (by repeat (first | (with_reducible first | exact HB.out | apply below_alloc | apply pw_below_drewN | apply below_drew1) | exact HB.out)) hb2)
    clear hb2 CO
    go_wp2_with fail
    refine (C2 _).mono ?_
    rintro en w3 ⟨rfl, hb3⟩
    have HB3 := Aside0.mk (below_step HB2.out hb3)
    clear hb3 C2
    go_wp2
    exact ⟨⟨c', k + 1, rfl, by go_num, by have := HK.out; omega, HC', HB3⟩, by simp [intOf]; have := HK.out; omega⟩
   ·have hk2 : k = l.length := by omega
    subst hk2
    have C3 := fun W => TagOf.text_any cv W HC.out.1 HC.out.2
    have C4 := fun W => Tryz.strconv_Itoa_small l.length HL.out W
    clear hlt hk
    go_wp2_with fail
    refine (C3 _).mono ?_
    rintro en w2 ⟨rfl, hb2⟩
    have HB2 := Aside0.mk (below_step (by repeat (first | (with_reducible first | exact HB.out | apply below_alloc | apply pw_below_drewN | apply below_drew1) | exact HB.out)) hb2)
    clear hb2 C3
    obtain ⟨x1, hx1⟩ : ∃ x, x = TagOf.tagText cv := ⟨_, rfl⟩
    have hs1 : x1.size = 8 := by rw [hx1]; simp [TagOf.tagText, TagText.text, ByteArray.size]
    rw [← hx1]
    clear hx1
    go_wp2_with fail
    refine (C4 _).mono ?_
    rintro en w3 ⟨rfl, rfl⟩
    clear C4
    obtain ⟨x2, hx2⟩ : ∃ x, x = (⟨(Lib.decDigits l.length).toArray⟩ : ByteArray) := ⟨_, rfl⟩
    have hs2 : x2.size ≤ 2 := by rw [hx2]; exact dec_small _ HL.out
    rw [← hx2]
    clear hx2
    have e1 : (9223372036854775807 < x1.size + 1) = False := eq_false (by omega)
    have e2 : (9223372036854775807 < x1.size + 1 + x2.size) = False := eq_false (by omega)
    have e3 : (9223372036854775807 < (x1 ++ (⟨#[45]⟩ : ByteArray)).size + x2.size) = False := eq_false (by rw [ByteArray.size_append]; have : (⟨#[45]⟩ : ByteArray).size = 1 := rfl; omega)
    go_wp2
    go_ret2
    exact ⟨_, _, rfl, HB2.out⟩
end Go.Proofs.YtpccbmechgkogaaGreatDoor.TagMany
