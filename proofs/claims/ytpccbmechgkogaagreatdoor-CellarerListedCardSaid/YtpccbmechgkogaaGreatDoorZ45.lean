/-
  Lemmas: ListP, Read.
-/
import Derived.Test.YtpccbmechgkogaaGreatDoorProg
import Derived.BigRegion
import Derived.Test.YtpccbmechgkogaaGreatDoorV0
import Derived.Test.YtpccbmechgkogaaGreatDoorZ00
import Derived.Test.YtpccbmechgkogaaGreatDoorZ01
import Derived.Test.YtpccbmechgkogaaGreatDoorZ02
import Derived.Test.YtpccbmechgkogaaGreatDoorZ03
import Derived.Test.YtpccbmechgkogaaGreatDoorZ04
import Derived.Test.YtpccbmechgkogaaGreatDoorZ05
import Derived.Test.YtpccbmechgkogaaGreatDoorZ06
import Derived.Test.YtpccbmechgkogaaGreatDoorZ07
import Derived.Test.YtpccbmechgkogaaGreatDoorZ08
import Derived.Test.YtpccbmechgkogaaGreatDoorZ11
import Derived.Test.YtpccbmechgkogaaGreatDoorZ14
import Derived.Test.YtpccbmechgkogaaGreatDoorZ16
import Derived.Test.YtpccbmechgkogaaGreatDoorZ18
import Derived.Test.YtpccbmechgkogaaGreatDoorZ20
import Derived.Test.YtpccbmechgkogaaGreatDoorZ21
import Derived.Test.YtpccbmechgkogaaGreatDoorZ22
import Derived.Test.YtpccbmechgkogaaGreatDoorZ23
import Derived.Test.YtpccbmechgkogaaGreatDoorZ27
import Derived.Test.YtpccbmechgkogaaGreatDoorZ28
import Derived.Test.YtpccbmechgkogaaGreatDoorZ30
import Derived.Test.YtpccbmechgkogaaGreatDoorZ36
import Derived.Test.YtpccbmechgkogaaGreatDoorZ39
import Derived.Test.YtpccbmechgkogaaGreatDoorZ40
import Derived.Test.YtpccbmechgkogaaGreatDoorZ41
import Derived.Test.YtpccbmechgkogaaGreatDoorZ44
set_option linter.unusedVariables false
set_option linter.unusedSimpArgs false
namespace Go.Proofs.YtpccbmechgkogaaGreatDoor.ListP
open Go.RowKit Go.Maps Go.WideMaps Go.ChangeMaps Go.Proofs.YtpccbmechgkogaaGreatDoor.P Go.Proofs.YtpccbmechgkogaaGreatDoorW.PrintWords Go.Proofs.YtpccbmechgkogaaGreatDoorW.PrintLast Go.Proofs.YtpccbmechgkogaaGreatDoorW.PrintMore Go.Proofs.YtpccbmechgkogaaGreatDoor.PureKit Go.Proofs.YtpccbmechgkogaaGreatDoor.BkSpec Go.Proofs.YtpccbmechgkogaaGreatDoor.BkOk Go.Proofs.YtpccbmechgkogaaGreatDoor.PgA Go.Proofs.YtpccbmechgkogaaGreatDoor.PgKs Go.Proofs.YtpccbmechgkogaaGreatDoor.IdxPut
open Go.Proofs.YtpccbmechgkogaaGreatDoor.PgSpec (kl tl tl_len tl_mem markB)
open Go.Proofs.YtpccbmechgkogaaGreatDoor.PgRw (R rowsFrom rowsOf allL rowsFrom_len)
def listed (b : B) : List ByteArray := kl b.f2
def KeysTold (w : World) (b : B) (e : Ending) (w' : World) : Prop :=
 ∃ (A0 : Option Addr) (c0 : Nat) (A1 : Option Addr) (n1 c1 : Nat) (last : ByteArray), e = .returned (.tuple #[.agg #[.slice A0 (listed b).length c0, .slice A1 n1 c1, .bool false, .string last], .int .i64 0]) ∧ Kd.C Kd.string w' A0 (listed b).length (listed b) ∧ Below w.heap.size w w'
theorem keys_any {now : Int} (b : B) (A : Option Addr) (c : Nat) (w : World) (h : Ok now b) (hr : Kd.C k79 w A b.f2.length b.f2) (hc : b.f2.length ≤ c) :
  Calls Tryz.prog 7 #[.slice A b.f2.length c, .string no, .string no, .string no, .int .i64 1000] w (KeysTold w b) := by
 refine (PgKs.keys_any A c b.f2 w hr h.idx).mono ?_
 rintro e w' ⟨v0, rfl, ho, hb⟩
 obtain ⟨A0, c0, rfl, _, hC⟩ := Kd.R_reads (show Kd.R Kd.string 9 w' w.heap.size (fun _ => True) v0 (listed b) from Kd.R_of_own (enc := Value.string) (xs := kl b.f2) ho (fun _ _ => trivial))
 exact ⟨A0, c0, none, 0, 0, _, rfl, hC, hb⟩
theorem listed_size {now : Int} {b : B} (h : Ok now b) : (listed b).length ≤ 60 ∧ ∀ s ∈ listed b, s.size ≤ 60 := by
 refine ⟨?_, fun s hs => ?_⟩
 ·have h1 := ((IdxLaws.index_iff b.f2).1 h.idx).1
  have h2 := tl_len b.f2
  unfold listed kl
  rw [List.length_map]
  omega
 ·obtain ⟨u, hu, rfl⟩ := List.mem_map.1 hs
  obtain ⟨_, x, hx, e⟩ := tl_mem hu
  rw [e]
  have hk := ((RefE.entries_of h).1 x hx).1
  unfold Name.keyB Name.isB at hk
  simp only [Bool.and_eq_true, decide_eq_true_eq] at hk
  exact hk.1.2
def rows (b : B) : List R := allL b.f2
def RowsTold (w : World) (b : B) (e : Ending) (w' : World) : Prop :=
 ∃ (A0 : Option Addr) (n0 c0 : Nat) (more : Bool), e = .returned (.tuple #[.slice A0 n0 c0, .bool more, .int .i64 0]) ∧ (more = false → n0 = (rows b).length ∧ Kd.C k54 w' A0 n0 (rows b)) ∧ Below w.heap.size w w'
theorem rows_any {now : Int} (b : B) (A : Option Addr) (c : Nat) (w : World) (h : Ok now b) (hr : Kd.C k79 w A b.f2.length b.f2) (hc : b.f2.length ≤ c) :
  Calls Tryz.prog 8 #[.slice A b.f2.length c, .string no, .string no, .int .u64 0, .int .i64 1000] w (RowsTold w b) := PgRw.rows_any A c b.f2 w hr h.idx
theorem many_rows : ∀ l : List E, Cnt.many l = ((allL l).length : Int)
 | [] => rfl
 | x :: r => by
  have h1 : allL (x :: r) = rowsOf x ++ allL r := by simp [allL]
  have h2 : (rowsOf x).length = x.f1.length := by
   unfold rowsOf
   rw [rowsFrom_len]
  rw [h1, List.length_append, h2, Int.natCast_add, ← many_rows r]
  simp [Cnt.many]
theorem count_any {now : Int} (b : B) (A : Option Addr) (c : Nat) (w : World) (h : Ok now b) (hr : Kd.C k79 w A b.f2.length b.f2) (hc : b.f2.length ≤ c) :
  Calls Tryz.prog 10 #[.slice A b.f2.length c] w fun e w' => e = .returned (.tuple #[.int .i64 ((rows b).length : Int), .int .i64 (octI b.f2)]) ∧ Below w.heap.size w w' := by
 have := Cnt.octI_le h.idx
 rw [show ((rows b).length : Int) = Cnt.many b.f2 from (many_rows b.f2).symm]
 exact Cnt.count_any A c b.f2 w hr (by omega) (by omega)
theorem find_any (l : List V) (id : Int) (A : Option Addr) (c : Nat) (w : World) (hr : Kd.C k63 w A l.length l) (hc : ChSpec.chainB l = true) :
  Calls Tryz.prog 14 #[.slice A l.length c, .int .u64 id] w fun e w' => e = .returned (.tuple #[ChAt.aggV (ChSpec.findF l id).1, .int .i64 (ChSpec.findF l id).2]) ∧ Below w.heap.size w w' := by
 exact ChAt.find_any A c l id w hr hc
theorem set_run {W : World} {base mb : Nat} {xs : List ByteArray} (h : PgMapS.MS W base (.map (some mb)) xs) (s : ByteArray) (hs : s.size ≤ 1000) : (Instr.lookup 50 (.map (some mb)) (.string s) false).run Tryz.prog W = .ok (.bool (xs.any fun y => y.toList == s.toList)) W := by
 obtain ⟨mb', n, d, e, hb, hown, rfl, hat⟩ := h
 cases e
 obtain ⟨v, ps, hrun, hv⟩ := hown.lookup PgMapS.law PgMapS.map_is (PgMapS.zero_b W) (plainElem_bool PgMapS.bool_is false) (keyOf_string_mk Tryz.underlying9 (Nat.le_trans hs (by decide) : s.size ≤ maxLen))
 rw [hat] at hv
 obtain rfl := PgMapS.bool_inv hv
 exact hrun
theorem from_mem (key : ByteArray) : ∀ (l : List V) (i : Nat), ∀ y ∈ rowsFrom key l i, y.f0 = key ∧ ∃ v ∈ l, y.f1 = v.f0 ∧ y.f3 = v.f2 ∧ y.f4 = (v.f1.size : Int)
 | [], _, y, h => by simp [rowsFrom] at h
 | v :: r, i, y, h => by
  rcases List.mem_cons.1 h with rfl | h
  ·exact ⟨rfl, v, by simp, rfl, rfl, rfl⟩
  ·obtain ⟨h1, u, hu, h2⟩ := from_mem key r (i + 1) y h
   exact ⟨h1, u, by simp [hu], h2⟩
theorem row_key {now : Int} {b : B} (h : Ok now b) {r : R} (hr : r ∈ rows b) : r.f0.size ≤ 60 := by
 unfold rows allL at hr
 obtain ⟨x, hx, hr⟩ := List.mem_flatMap.1 hr
 unfold rowsOf at hr
 rw [(from_mem x.f0 x.f1 0 r hr).1]
 have hk := ((RefE.entries_of h).1 x hx).1
 unfold Name.keyB Name.isB at hk
 simp only [Bool.and_eq_true, decide_eq_true_eq] at hk
 exact hk.1.2
theorem row_mem {b : B} {r : R} (h : r ∈ rows b) : ∃ x ∈ b.f2, r.f0 = x.f0 ∧ ∃ v ∈ x.f1, r.f1 = v.f0 ∧ r.f3 = v.f2 ∧ r.f4 = (v.f1.size : Int) := by
 unfold rows allL at h
 obtain ⟨x, hx, hr⟩ := List.mem_flatMap.1 h
 unfold rowsOf at hr
 obtain ⟨h1, h2⟩ := from_mem x.f0 x.f1 0 r hr
 exact ⟨x, hx, h1, h2⟩
theorem chain_ok {now : Int} {b : B} (h : Ok now b) {x : E} (hx : x ∈ b.f2) : ChSpec.chainB x.f1 = true := by
 have := ((IdxLaws.index_iff b.f2).1 h.idx).2.1 x hx
 simp only [IdxLaws.okE, Bool.and_eq_true] at this
 exact this.2
theorem find_row {now : Int} {b : B} (h : Ok now b) {r : R} (hr : r ∈ rows b) : ∃ v : V, ChSpec.findF (getL b.f2 r.f0) r.f1 = (v, if r.f3 = true then 13 else 0) ∧ (v.f1.size : Int) = r.f4 := by
 obtain ⟨x, hx, h0, v, hv, h1, h3, h4⟩ := row_mem hr
 have hR := ((IdxLaws.index_iff b.f2).1 h.idx).2.2
 have hc := chain_ok h hx
 obtain ⟨_, _, hp⟩ := (ChOrd.chain_iff (fun v hv => (h.vs x hx v hv).1)).1 hc
 obtain ⟨pre, rest, e⟩ := List.append_of_mem hv
 refine ⟨v, ?_, h4.symm⟩
 rw [getL_mem hR hx h0.symm, h1, h3]
 unfold ChSpec.findF ChSpec.atF
 rw [if_pos hc, ChOrd.find_self hp e]
theorem read_row {now : Int} {b : B} (h : Ok now b) {r : R} (hr : r ∈ rows b) (q : S34) (h2 : q.f2 = r.f0) (h6 : q.f6 = 0) : ((ClkVer.versP q b).2 == 0) = ((listed b).any fun y => y.toList == r.f0.toList) := by
 obtain ⟨x, hx, h0, v, hv, -⟩ := row_mem hr
 have hR := ((IdxLaws.index_iff b.f2).1 h.idx).2.2
 have hc := chain_ok h hx
 have hk : Name.keyB x.f0 = true := ((RefE.entries_of h).1 x hx).1
 have hg := getL_mem hR hx rfl
 have hv : (ClkVer.versP q b).2 = if PgSpec.markB x = true then 13 else 0 := by
  unfold ClkVer.versP ClkVer.getP
  rw [if_pos h6, h2, h0, if_pos hk, hg]
  unfold ChSpec.getF ChSpec.atF PgSpec.markB
  rw [if_pos hc]
  cases hq : x.f1 with
  | nil => rw [hq] at hv; cases hv
  | cons u t => rfl
 rw [hv, h0]
 cases hm : PgSpec.markB x with
 | false =>
  rw [Eq.comm]
  refine List.any_eq_true.2 ⟨x.f0, ?_, by simp⟩
  exact List.mem_map.2 ⟨⟨x.f0, false⟩, List.mem_map.2 ⟨x, List.mem_filter.2 ⟨hx, by rw [hm]; rfl⟩, rfl⟩, rfl⟩
 | true =>
  rw [Eq.comm]
  refine List.any_eq_false.2 fun y hy => ?_
  obtain ⟨_, hu, rfl⟩ := List.mem_map.1 hy
  obtain ⟨z, hz, rfl⟩ := List.mem_map.1 hu
  obtain ⟨hz, hmz⟩ := List.mem_filter.1 hz
  intro he
  have hzx : z.f0 = x.f0 := DpFind.toList_inj (beq_iff_eq.1 he)
  have h7 := getL_mem hR hz hzx
  rw [hg] at h7
  have : PgSpec.markB z = PgSpec.markB x := by unfold PgSpec.markB; rw [h7]
  rw [this, hm] at hmz
  cases hmz
end Go.Proofs.YtpccbmechgkogaaGreatDoor.ListP
namespace Go.Proofs.YtpccbmechgkogaaGreatDoor.Read
open Go.RowKit Go.Proofs.YtpccbmechgkogaaGreatDoor.P Go.Proofs.YtpccbmechgkogaaGreatDoorW.PrintWords Go.Proofs.YtpccbmechgkogaaGreatDoorW.PrintLast Go.Proofs.YtpccbmechgkogaaGreatDoorW.PrintMore Go.Proofs.YtpccbmechgkogaaGreatDoor.PureKit Go.Proofs.YtpccbmechgkogaaGreatDoor.BkSpec Go.Proofs.YtpccbmechgkogaaGreatDoor.Wk Go.Proofs.YtpccbmechgkogaaGreatDoor.Close Go.Proofs.YtpccbmechgkogaaGreatDoor.BkOk Go.Proofs.YtpccbmechgkogaaGreatDoor.DpChk Go.Proofs.YtpccbmechgkogaaGreatDoor.DpFind Go.Proofs.YtpccbmechgkogaaGreatDoor.BkUps Go.Proofs.YtpccbmechgkogaaGreatDoor.PtLack Go.Proofs.YtpccbmechgkogaaGreatDoor.Clk Go.Proofs.YtpccbmechgkogaaGreatDoor.ClkVer Go.Proofs.YtpccbmechgkogaaGreatDoor.BkGet Go.Proofs.YtpccbmechgkogaaGreatDoor.ChAt
def Told (p : V × Int) (w : World) (en : Ending) (w' : World) : Prop :=
 ∃ (s t : ByteArray) (i : Int), en = .returned (.tuple #[.string s, .agg #[.int .u64 i, .string t, .int .i64 p.2]]) ∧ (p.2 = 0 → s = p.1.f1 ∧ t = TagOf.tagText (TagOf.tagOf s)) ∧ Below w.heap.size w w'
set_option maxRecDepth 100000 in
set_option maxHeartbeats 6400000 in
theorem read_any (w : World) (now : Int) (vl : Value) (l : List B) (q : Q) (vp : Value) (hl : Rd kB w (fun _ => True) vl l) (hd : DepOk now l) (hp : Rd kI w (fun _ => True) vp q.f8) (b : B) (hb : b ∈ l) (hn : b.f0 = q.f1) :
  Calls Tryz.prog 11 #[.agg #[.int .i64 now, vl], .agg #[.int .i64 q.f0, .string q.f1, .string q.f2, .string q.f3, .string q.f4, .string q.f5, .int .u64 q.f6, .int .i64 q.f7, vp], .agg #[.int .i64 0, .int .i64 0, .bool true, .bool false]] w (Told (versP q b) w) := by
 obtain ⟨p, hp0⟩ : ∃ p, versP q b = p := ⟨_, rfl⟩
 rw [hp0]
 have HPQ := Aside0.mk hp0
 clear hp0
 obtain ⟨x, e⟩ := p
 have hu63 := Tryz.underlying63
 have hu25 := Tryz.underlying25
 have hu34 := Tryz.underlying34
 have hu29 := Tryz.underlying29
 have hu58 := Tryz.underlying58
 have hu71 := Tryz.underlying71
 obtain ⟨AL, cl, rfl⟩ := Kd.V_slice hl
 obtain ⟨AP, cp, rfl⟩ := Kd.V_slice hp
 obtain ⟨V4, hV4⟩ : ∃ V, V = ((((w.alloc (.cells #[.int .i64 now, .slice AL l.length cl] 25)).alloc (.cells #[.int .i64 q.f0, .string q.f1, .string q.f2, .string q.f3, .string q.f4, .string q.f5, .int .u64 q.f6, .int .i64 q.f7, .slice AP q.f8.length cp] 34)).alloc (.cells #[.int .i64 0, .int .i64 0, .bool true, .bool false] 58)).alloc (.cells #[.int .u64 0, .string ⟨#[]⟩, .int .i64 0] 29)) := ⟨_, rfl⟩
 have hz0 := fun j => blk_cell (blk_alloc (blk3a w (.cells #[.int .i64 now, .slice AL l.length cl] 25) (.cells #[.int .i64 q.f0, .string q.f1, .string q.f2, .string q.f3, .string q.f4, .string q.f5, .int .u64 q.f6, .int .i64 q.f7, .slice AP q.f8.length cp] 34) (.cells #[.int .i64 0, .int .i64 0, .bool true, .bool false] 58)) (.cells #[.int .u64 0, .string ⟨#[]⟩, .int .i64 0] 29)) j
 have hz1 := fun j => blk_cell (blk_alloc (blk3b w (.cells #[.int .i64 now, .slice AL l.length cl] 25) (.cells #[.int .i64 q.f0, .string q.f1, .string q.f2, .string q.f3, .string q.f4, .string q.f5, .int .u64 q.f6, .int .i64 q.f7, .slice AP q.f8.length cp] 34) (.cells #[.int .i64 0, .int .i64 0, .bool true, .bool false] 58)) (.cells #[.int .u64 0, .string ⟨#[]⟩, .int .i64 0] 29)) j
 have HLL := Aside0.mk (Kd.V_bound hl)
 have HPP := Aside0.mk (Kd.V_bound hp)
 have HD := Aside0.mk hd
 have HB := Aside0.mk (And.intro hb hn)
 have hs4 : V4.heap.size = w.heap.size + 1 + 1 + 1 + 1 := by rw [hV4]; simp
 have hb4 : Below w.heap.size w V4 := by rw [hV4]; exact below_alloc (below_alloc (below_alloc (below_alloc (Below.refl _ _) _) _) _) _
 obtain ⟨V5, hV5⟩ : ∃ V, V = V4.alloc (.cells #[.int .i64 q.f0, .string q.f1, .string q.f2, .string q.f3, .string q.f4, .string q.f5, .int .u64 q.f6, .int .i64 q.f7, .slice AP q.f8.length cp, .int .i64 now, .slice AL l.length cl, .string ⟨#[]⟩, .int .i64 0, .slice none 0 0, .slice none 0 0, .int .u64 0, .int .u64 0, .string ⟨#[]⟩, .int .i64 0] 71) := ⟨_, rfl⟩
 have hb5 : Below w.heap.size w V5 := by rw [hV5]; exact below_alloc hb4 _
 have kc : V5.heap[(w.heap.size + 1 + 1 + 1 + 1)]? = some (.cells #[.int .i64 q.f0, .string q.f1, .string q.f2, .string q.f3, .string q.f4, .string q.f5, .int .u64 q.f6, .int .i64 q.f7, .slice AP q.f8.length cp, .int .i64 now, .slice AL l.length cl, .string ⟨#[]⟩, .int .i64 0, .slice none 0 0, .slice none 0 0, .int .u64 0, .int .u64 0, .string ⟨#[]⟩, .int .i64 0] 71) := by rw [hV5, ← hs4]; exact blk_new V4 _
 have k2 : V5.heap[w.heap.size + 1 + 1]? = some (.cells #[.int .i64 0, .int .i64 0, .bool true, .bool false] 58) := by rw [hV5, hV4]; exact blk_alloc (blk_alloc (blk3c w _ _ _) _) _
 have k3 : V5.heap[w.heap.size + 1 + 1 + 1]? = some (.cells #[.int .u64 0, .string ⟨#[]⟩, .int .i64 0] 29) := by rw [hV5, hV4]; exact blk_alloc (blk4d w _ _ _ _) _
 have HC : Aside0 (CAt V5 (w.heap.size + 1 + 1 + 1 + 1) q (.slice AP q.f8.length cp) now (.slice AL l.length cl) l zB (.slice none 0 0) (.slice none 0 0) 0 ⟨#[]⟩ 0) := ⟨⟨kc, Kd.V_mono (Kd.V_below HPP.out hb5) (fun k hk => by have := hk.2; exact ⟨by omega, by omega, by omega⟩), Kd.V_mono (Kd.V_below HLL.out hb5) (fun k hk => by have := hk.2; exact ⟨by omega, by omega, by omega⟩), sl_zero _ _⟩⟩
 have K2 := Aside0.mk k2
 have K3 := Aside0.mk k3
 have HB5 := Aside0.mk hb5
 clear hl hd hp hb hn hs4 hb4 kc k2 k3 hb5
 go_enter Tryz.func11, Tryz.ntmps11
 go_wp2_with fail
 rw [← hV4, ← hV5]
 clear hz0 hz1 hV5 hV4
 refine (open_any V5 _ q _ now _ l zB _ _ 0 _ 0 HC.out HD.out q.f1).mono ?_
 rintro en W2 ⟨b2, u2, u3, er, ⟨rfl, hC2, hg2⟩, hx1, hx2⟩
 have her : er = 0 := Classical.byContradiction (fun h => (hx2 h).2 b HB.out.1 HB.out.2)
 subst her
 obtain ⟨hm2, hn2⟩ := hx1 rfl
 have hbb : b2 = b := by
  obtain ⟨i, hi, rfl⟩ := List.getElem_of_mem hm2
  obtain ⟨j, hj, rfl⟩ := List.getElem_of_mem HB.out.1
  have := ClkRem.dep_uniq HD.out hi hj (hn2.trans HB.out.2.symm)
  subst this
  rfl
 subst hbb
 have HC2 := Aside0.mk (show CAt W2 (w.heap.size + 1 + 1 + 1 + 1) q _ now _ l b2 u2 u3 0 _ 0 from hC2)
 have K22 := Aside0.mk (grown_blk hg2 K2.out (by omega))
 have K32 := Aside0.mk (grown_blk hg2 K3.out (by omega))
 have HB2 := Aside0.mk (HB5.out.grown hg2 HB5.out.size (fun k e => by cases e; omega))
 have hz := fun j => blk_cell HC2.out.blk j
 have hOK := HD.out.ok b2 hm2
 have CV := Aside0.mk (version_any W2 _ q _ now _ l b2 u2 u3 0 _ 0 HC2.out hOK)
 clear hC2 hg2 hx1 hx2 hm2 hn2 hOK
 have hcv := CV.out
 rw [HPQ.out] at hcv
 unfold Versed aggV at hcv
 have HCV := Aside0.mk hcv
 clear hcv CV
 go_wp2_with fail
 refine HCV.out.mono ?_
 rintro en W3 ⟨rfl, hC3, hg3⟩
 have hba := below_alloc (Below.refl W3.heap.size W3) (.cells #[.int .u64 x.f0, .string x.f1, .bool x.f2, .int .i64 x.f3] tV)
 have HC3 := Aside0.mk (show CAt _ (w.heap.size + 1 + 1 + 1 + 1) q _ now _ l b2 u2 u3 0 _ e from hC3.below hba)
 have K23 := Aside0.mk (blk_below (grown_blk hg3 K22.out (by omega)) hba)
 have K33 := Aside0.mk (blk_below (grown_blk hg3 K32.out (by omega)) hba)
 have KV := Aside0.mk (blk_new W3 (.cells #[.int .u64 x.f0, .string x.f1, .bool x.f2, .int .i64 x.f3] tV))
 have HB3 := Aside0.mk (below_alloc (HB2.out.grown hg3 HB2.out.size (fun k e => by cases e; omega)) (.cells #[.int .u64 x.f0, .string x.f1, .bool x.f2, .int .i64 x.f3] tV))
 have hzc := fun j => blk_cell HC3.out.blk j
 have hzv := fun j => blk_cell KV.out j
 have hz5 := fun j => blk_cell K23.out j
 have hz7 := fun j => blk_cell K33.out j
 have hf7 := fun j => blk_frozen K33.out j
 clear hC3 hg3 hba hz HCV
 by_cases h13 : e = 13
 case' pos =>
  subst h13
  go_wp2_with fail
  go_region
  go_wp2
  have gS := ((grown_set (W3.alloc (.cells #[.int .u64 x.f0, .string x.f1, .bool x.f2, .int .i64 x.f3] tV)) (w.heap.size + 1 + 1 + 1) 0 (.int .u64 x.f0)).trans (grown_set _ (w.heap.size + 1 + 1 + 1) 1 (.string ⟨#[]⟩))).trans (grown_set _ (w.heap.size + 1 + 1 + 1) 2 (.int .i64 13))
  have z := fun j => blk_cell (blk_drew (blk_set (blk_set (blk_set K33.out 0 (.int .u64 x.f0)) 1 (.string ⟨#[]⟩)) 2 (.int .i64 13))) j
  refine bodyPost_ret (v := .tuple #[.string ⟨#[]⟩, .agg #[.int .u64 x.f0, .string ⟨#[]⟩, .int .i64 13]]) (by simp [results, Tryz.results11, go_sem, z]) rfl ?_
  exact ⟨⟨#[]⟩, ⟨#[]⟩, _, rfl, fun h => absurd h (show ¬ ((13 : Int) = 0) by decide), below_drew (HB3.out.grown gS HB3.out.size (fun k e => by cases e; omega))⟩
 case' neg =>
  by_cases h0 : e = 0
  case' neg =>
   have d1 : (e == 13) = false := beq_eq_false_iff_ne.mpr h13
   have d2 : (e != 0) = true := bne_iff_ne.mpr h0
   have HE := Aside0.mk h0
   clear h13 h0
   go_wp2_with fail
   go_region
   go_wp2
   have gS := ((grown_set (W3.alloc (.cells #[.int .u64 x.f0, .string x.f1, .bool x.f2, .int .i64 x.f3] tV)) (w.heap.size + 1 + 1 + 1) 0 (.int .u64 0)).trans (grown_set _ (w.heap.size + 1 + 1 + 1) 1 (.string ⟨#[]⟩))).trans (grown_set _ (w.heap.size + 1 + 1 + 1) 2 (.int .i64 e))
   have z := fun j => blk_cell (blk_drew (blk_set (blk_set (blk_set K33.out 0 (.int .u64 0)) 1 (.string ⟨#[]⟩)) 2 (.int .i64 e))) j
   refine bodyPost_ret (v := .tuple #[.string ⟨#[]⟩, .agg #[.int .u64 0, .string ⟨#[]⟩, .int .i64 e]]) (by simp [results, Tryz.results11, go_sem, z]) rfl ?_
   exact ⟨⟨#[]⟩, ⟨#[]⟩, _, rfl, fun h => absurd h HE.out, below_drew (HB3.out.grown gS HB3.out.size (fun k e => by cases e; omega))⟩
  case' pos =>
   subst h0
   clear h13
   have HS0 : Aside0 ((W3.alloc (.cells #[.int .u64 x.f0, .string x.f1, .bool x.f2, .int .i64 x.f3] tV)).cell? ⟨W3.heap.size, 0, none⟩ = some (.int .u64 x.f0)) := ⟨(hzv 0).trans rfl⟩
   have HS1 : Aside0 ((W3.alloc (.cells #[.int .u64 x.f0, .string x.f1, .bool x.f2, .int .i64 x.f3] tV)).cell? ⟨W3.heap.size, 1, none⟩ = some (.string x.f1)) := ⟨(hzv 1).trans rfl⟩
   have HXS : Aside0 (x.f1.size ≤ 9223372036854775807) := ⟨by have := vers_size q b2; rw [HPQ.out] at this; exact this⟩
   go_wp2_with fail
   refine start_ (n := 10) (S := fun w' => w'.cell? ⟨W3.heap.size, 0, none⟩ = some (.int .u64 x.f0) ∧ w'.cell? ⟨W3.heap.size, 1, none⟩ = some (.string x.f1)) (ds := [9]) (bb 10 0) (by kernel_rfl) rfl rfl ⟨HS0.out, HS1.out⟩ (fun hHeld => ?_)
   refine pu 0 71 (h := pu 1 72 (h := pu 3 74 (h := ta 2 73 hHeld (h := ta 4 75 hHeld (h := on_ 5 76 (h := fun K hK => ?_))))))
   refine goes_ Tryz.func13 (by kernel_rfl) rfl #[.string x.f1] (by rfl) rfl rfl (by simp only [List.map_toArray, List.map_cons, List.map_nil]; rfl) ?_
   refine (TagOf.of_any x.f1 _ HXS.out).mono ?_
   rintro e3 w5 ⟨rfl, hb⟩
   refine ⟨_, rfl, ?_⟩
   have HB5 := Aside0.mk (below_step (below_drew (Below.refl ((W3.alloc (.cells #[.int .u64 x.f0, .string x.f1, .bool x.f2, .int .i64 x.f3] tV))).heap.size ((W3.alloc (.cells #[.int .u64 x.f0, .string x.f1, .bool x.f2, .int .i64 x.f3] tV))))) hb)
   clear hb
   refine hK.out _ _ ⟨(pw_cell_below HB5.out HS0.out), (pw_cell_below HB5.out HS1.out)⟩ (fun hHeld => ?_)
   clear hK K
   refine nm (h := on_ 6 77 (h := fun K hK => ?_))
   refine goes_ Tryz.func12 (by kernel_rfl) rfl #[.int .u32 (TagOf.tagOf x.f1)] (by rfl) rfl rfl (by simp only [List.map_toArray, List.map_cons, List.map_nil]; rfl) ?_
   refine (TagOf.text_any _ _ (TagOf.tag_bd x.f1).1 (TagOf.tag_bd x.f1).2).mono ?_
   rintro e3 w6 ⟨rfl, hb⟩
   refine ⟨_, rfl, ?_⟩
   have HB6 := Aside0.mk (below_step HB5.out hb)
   clear hb
   have K36 := Aside0.mk (blk_below K33.out HB6.out)
   have hz6 := fun j => blk_cell K36.out j
   have hf6 := fun j => blk_frozen K36.out j
   refine hK.out _ _ ⟨(pw_cell_below HB6.out HS0.out), (pw_cell_below HB6.out HS1.out)⟩ (fun hHeld => ?_)
   clear hK K
   refine nm (h := pu 7 78 (h := pu 8 6 (h := ln_ 9 (h := fun K hK => ?_))))
   refine skip_ (w1 := ?_) (by rfl) rfl ?_ ?_
   rotate_left
   ·go_simp
    rfl
   refine hK.out _ _ ?_
   clear hK K
   refine dn (h := ?_)
   (try clear hHeld)
   go_wp2
   have gS := ((grown_set w6 (w.heap.size + 1 + 1 + 1) 0 (.int .u64 x.f0)).trans (grown_set _ (w.heap.size + 1 + 1 + 1) 1 (.string (TagOf.tagText (TagOf.tagOf x.f1))))).trans (grown_set _ (w.heap.size + 1 + 1 + 1) 2 (.int .i64 0))
   have z := fun j => blk_cell (blk_set (blk_set (blk_set K36.out 0 (.int .u64 x.f0)) 1 (.string (TagOf.tagText (TagOf.tagOf x.f1)))) 2 (.int .i64 0)) j
   refine bodyPost_ret (v := .tuple #[.string x.f1, .agg #[.int .u64 x.f0, .string (TagOf.tagText (TagOf.tagOf x.f1)), .int .i64 0]]) (by simp [results, Tryz.results11, go_sem, z]) rfl ?_
   have hBB := below_step HB3.out HB6.out
   exact ⟨x.f1, _, _, rfl, fun _ => ⟨rfl, rfl⟩, hBB.grown gS hBB.size (fun k e => by cases e; omega)⟩
end Go.Proofs.YtpccbmechgkogaaGreatDoor.Read
