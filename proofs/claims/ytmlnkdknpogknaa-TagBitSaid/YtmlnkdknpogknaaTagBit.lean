/-
  tag: THE LAW TagBit, walked: octets of which one bit is turned have another tag.
-/
import Derived.Test.YtmlnkdknpogknaaPureTag
import Derived.Lib.ConvBytes
import Derived.BigRegion
namespace Go.Proofs.Ytmlnkdknpogknaa.TagBit
open Go.RowKit Go.Proofs.Ytmlnkdknpogknaa.P Go.Proofs.YtmlnkdknpogknaaW.PrintWords Go.Proofs.Ytmlnkdknpogknaa.PureKit Go.Proofs.Ytmlnkdknpogknaa.PureTag Go.Proofs.Ytmlnkdknpogknaa.TagOnce

theorem conv_free (w : World) (e : TypeId) (s : ByteArray) (j : Nat) (hj : j < s.size) : (Lib.bytesWorld w e s).frozen? ⟨w.heap.size, j, none⟩ = false := by
  have h : (Lib.bytesCells w e s).size ≥ s.size := by
    unfold Lib.bytesCells
    simp
  simp only [World.frozen?, Lib.bytesWorld_at_new]
  simp
  omega
theorem conv_below (w : World) (e : TypeId) (s : ByteArray) : Below w.heap.size w (Lib.bytesWorld w e s) :=
  ⟨rfl, rfl, rfl, by rw [Lib.bytesWorld_size]; omega, fun k hk => Lib.bytesWorld_at_old w e s k hk⟩

theorem toList_oc (u : ByteArray) : u.toList = u.data.toList := ByteArray.toList_eq u

/-- The octet with its bit turned. -/
def turned (u : ByteArray) (m : Nat) : Nat := (oc u).getD (m / 8) 0 ^^^ 2 ^ (m % 8)
/-- The octets with the bit turned. -/
def after (u : ByteArray) (m : Nat) : List Nat := (oc u).set (m / 8) (turned u m)
theorem oc_getD (u : ByteArray) (i : Nat) (h : i < u.size) : (oc u).getD i 0 = (oc u)[i]'(by rw [oc_length]; exact h) := by
  rw [List.getD_eq_getElem?_getD, List.getElem?_eq_getElem]
  rfl
theorem turned_lt (u : ByteArray) (m : Nat) (h : m / 8 < u.size) : turned u m < 256 := by
  unfold turned
  rw [oc_getD u _ h]
  exact Nat.xor_lt_two_pow (n := 8) (oc_lt u _ (List.getElem_mem _)) (Nat.pow_lt_pow_right (by decide) (by omega))
theorem turned_is (u : ByteArray) (m : Nat) (h : m / 8 < u.size) : Go.bits .xor .u8 ((u.data[m / 8]?.getD 0).toNat : Int) (2 ^ (m % 8) % 256) = ((turned u m : Nat) : Int) := by
  have h1 : (u.data[m / 8]?.getD 0).toNat = (oc u).getD (m / 8) 0 := by
    have h' : m / 8 < u.data.size := h
    rw [oc_getD u _ h, Array.getElem?_eq_getElem h']
    simp [oc]
  have h2 : ((2 : Int) ^ (m % 8) % 256) = ((2 ^ (m % 8) : Nat) : Int) := by
    have : 2 ^ (m % 8) < 2 ^ 8 := Nat.pow_lt_pow_right (by decide) (by omega)
    rw [show ((2 : Int) ^ (m % 8)) = ((2 ^ (m % 8) : Nat) : Int) by rw [Int.natCast_pow]; rfl]
    generalize 2 ^ (m % 8) = q at *
    omega
  rw [h1, h2]
  unfold turned
  rw [oc_getD u _ h, TagMore.xor_u8 _ _ (oc_lt u _ (List.getElem_mem _)) (Nat.pow_lt_pow_right (by decide) (by omega))]
theorem after_lt (u : ByteArray) (m : Nat) (h : m / 8 < u.size) : ∀ x ∈ after u m, x < 256 := fun x hx => by
  unfold after at hx
  rcases List.mem_or_eq_of_mem_set hx with hx | rfl
  · exact oc_lt u x hx
  · exact turned_lt u m h
theorem parts_ne (u : ByteArray) (m : Nat) (h : m / 8 < u.size) : TagNat.more 0 (after u m) ≠ TagNat.more 0 (oc u) := by
  have hl : m / 8 < (oc u).length := by rw [oc_length]; exact h
  have e1 : oc u = (oc u).take (m / 8) ++ (oc u)[m / 8] :: (oc u).drop (m / 8 + 1) := by
    rw [List.getElem_cons_drop, List.take_append_drop]
  have e2 : after u m = (oc u).take (m / 8) ++ turned u m :: (oc u).drop (m / 8 + 1) := by
    unfold after
    rw [List.set_eq_take_append_cons_drop, if_pos hl]
  have hne : turned u m ≠ (oc u)[m / 8] := by
    unfold turned
    rw [oc_getD u _ h]
    intro e
    have e2 := congrArg ((oc u)[m / 8] ^^^ ·) e
    simp only [← Nat.xor_assoc, Nat.xor_self, Nat.zero_xor] at e2
    exact absurd e2 (Nat.ne_of_gt (Nat.two_pow_pos _))
  have hp := TagNat.run_parts ((oc u).take (m / 8)) ((oc u).drop (m / 8 + 1)) (turned u m) (oc u)[m / 8] (TagNat.no_lt 0) (fun z hz => oc_lt u z (List.mem_of_mem_take hz)) (fun z hz => oc_lt u z (List.mem_of_mem_drop hz)) (turned_lt u m h) (oc_lt u _ (List.getElem_mem _)) hne
  intro e
  apply hp
  rw [← e2, ← e1]
  unfold TagNat.more at e
  have h1 := TagNat.run_lt (after u m) (TagNat.no_lt 0) (after_lt u m h)
  have h2 := TagNat.run_lt (oc u) (TagNat.no_lt 0) (oc_lt u)
  rw [← TagNat.no_no h1, e, TagNat.no_no h2]
theorem conv_back (u : ByteArray) (m cap : Nat) (w1 W2 : World) (hc : ∀ j, j < u.size → W2.cell? ⟨w1.heap.size, j, none⟩ = some (.int .u8 (u.data.toList.getD j 0).toNat)) :
    (convert 30 9 (.slice (some ⟨w1.heap.size, 0, none⟩) u.size cap)).run Try.prog (W2.setCell ⟨w1.heap.size, m / 8, none⟩ (.int .u8 ((turned u m : Nat) : Int))).drew =
      .ok (.string (strOfNums ((after u m).map fun x => ((x : Nat) : Int)))) (W2.setCell ⟨w1.heap.size, m / 8, none⟩ (.int .u8 ((turned u m : Nat) : Int))).drew := by
  refine run_convert_bytes_arg (P := Try.prog) _ 30 5 Try.underlying30 Try.underlying5 w1.heap.size 0 u.size cap _ (by simp [after, oc_length]) (fun i hi => ?_) 9 Try.underlying9
  rw [Nat.zero_add, World.cell?_drew]
  have hl : i < (after u m).length := by simp [after, oc_length, hi]
  have hg : ((after u m).map fun x => ((x : Nat) : Int)).getD i 0 = (((after u m)[i] : Nat) : Int) := by
    rw [List.getD_eq_getElem?_getD, List.getElem?_map, List.getElem?_eq_getElem hl]
    rfl
  rw [hg]
  by_cases e : m / 8 = i
  · subst e
    rw [World.cell?_setCell_same _ _ _ (hc _ hi)]
    simp [after]
  · rw [World.cell?_setCell_other _ _ _ _ (fun e' => e (by simpa using congrArg Addr.off e')), hc i hi]
    have : (after u m)[i] = (oc u)[i]'(by rw [oc_length]; exact hi) := List.getElem_set_ne e _
    rw [this]
    have h' : i < u.data.size := hi
    rw [List.getD_eq_getElem?_getD, List.getElem?_eq_getElem (by simpa using h')]
    simp [oc]

set_option maxRecDepth 100000 in
set_option maxHeartbeats 1600000 in
theorem bit_any (k : Nat) (s : ByteArray) (n : Nat) (hn : n < 65536) (u : ByteArray) (hu : cellarerlaw02_Few.f k s = some u) (hul : u.size ≤ 4100) (w : World) :
    Calls Try.prog 6 #[.string s, .int .u16 n] w fun e w' => e = .returned (.bool true) ∧ Below w.heap.size w w' := by
  have C1 := cellarerlaw02_Few.calls k s u w hu
  go_enter Try.func6, Try.ntmps6
  go_wp2_with fail
  refine C1.mono ?_
  rintro e w1 ⟨rfl, hb1⟩
  clear C1
  have HB1 := hid hb1
  clear hb1
  by_cases hz : u.size = 0
  · have he : u.toList.isEmpty = true := by
      rw [toList_oc]
      cases hh : u.data.toList with
      | nil => rfl
      | cons _ _ => exact absurd (congrArg List.length hh) (by simp; omega)
    have he2 : u.toList = [] := by simpa using he
    go_wp2_with fail
    refine (cellarerlaw04_awake.calls true _ awake_is).mono ?_
    rintro e w2 ⟨rfl, hb2⟩
    have HB2 := hid hb2
    clear hb2 he he2
    go_wp2
    go_ret
    exact ⟨rfl, below_step HB1.out HB2.out⟩
  · have hcv := Lib.run_convert_string_bytes (P := Try.prog) w1 9 30 5 u Try.underlying9 Try.underlying30 Try.underlying5
    have he : u.toList.isEmpty = false := by
      rw [toList_oc]
      cases hh : u.data.toList with
      | nil => exact absurd (by simpa using congrArg List.length hh) hz
      | cons _ _ => rfl
    have hne : ¬ 8 * (u.size : Int) = 0 := by omega
    go_wp2_with fail
    have hmod : ((n : Int) % (8 * (u.size : Int))) = ((n % (8 * u.size) : Nat) : Int) := by rw [Int.natCast_emod, Int.natCast_mul]; rfl
    have hm : n % (8 * u.size) < 8 * u.size := Nat.mod_lt _ (by omega)
    rw [hmod]
    generalize n % (8 * u.size) = m at hm
    clear hmod hne he hcv
    have hc := Lib.bytesWorld_cell w1 5 u (m / 8) (by omega)
    have hf := conv_free w1 5 u (m / 8) (by omega)
    have HB2 := hid (conv_below w1 5 u)
    have HC := hid (Lib.bytesWorld_cell w1 5 u)
    generalize Lib.bytesWorld w1 5 u = W2 at hc hf HB2 HC ⊢
    generalize grownCap w1 u.size 0 5 = cap
    have hi0 : 0 ≤ (m : Int) / 8 := by omega
    have hi1 : (m : Int) / 8 < (u.size : Int) := by omega
    have hs0 : 0 ≤ (m : Int) % 8 := by omega
    have hs1 : (m : Int) % 8 ≤ 8 := by omega
    go_region
    clear hi0 hi1 hs0 hs1 hc hf
    have hcv := conv_back u m cap w1 W2 HC.out
    rw [← turned_is u m (by omega)] at hcv
    go_wp2_with fail
    have ho := nums_oc (after u m) (after_lt u m (by omega))
    have hsz : (strOfNums ((after u m).map fun x => ((x : Nat) : Int))).size ≤ 4100 := by rw [strOfNums_size]; simp [after, oc_length]; omega
    have hne := parts_ne u m (by omega)
    have C2 := fun W => tag_Of.calls (strOfNums ((after u m).map fun x => ((x : Nat) : Int))) (((TagNat.more 0 (after u m)) : Nat) : Int) W (by rw [of_is _ hsz, ho])
    clear ho hsz
    have hne' : ((((TagNat.more 0 (after u m)) : Nat) : Int) != (((TagNat.more 0 (oc u)) : Nat) : Int)) = true := by rw [bne_iff_ne]; exact fun e => hne (Int.ofNat_inj.1 e)
    generalize TagNat.more 0 (after u m) = A at C2 hne'
    have HNE := hid hne'
    clear hne hne' hcv
    refine (C2 _).mono ?_
    rintro e w3 ⟨rfl, hb3⟩
    have HB3 := hid hb3
    clear hb3 C2
    go_wp2_with fail
    have C3 := tag_Of.calls u _ w3 (of_is u hul)
    have hne' := HNE.out
    generalize TagNat.more 0 (oc u) = B at C3 hne'
    refine C3.mono ?_
    rintro e w4 ⟨rfl, hb4⟩
    have HB4 := hid hb4
    clear hb4 C3
    go_wp2_with fail
    refine (cellarerlaw04_awake.calls true _ awake_is).mono ?_
    rintro e w5 ⟨rfl, hb5⟩
    have HB5 := hid hb5
    clear hb5
    go_wp2
    go_ret
    have b1 : Below w.heap.size w W2 := below_step HB1.out HB2.out
    have b2 := (b1.setCell (p := ⟨w1.heap.size, m / 8, none⟩) HB1.out.size (.int .u8 (Go.bits .xor .u8 ((u.data[m / 8]?.getD 0).toNat : Int) (2 ^ (m % 8) % 256)))).drew
    exact ⟨rfl, below_step (below_step (below_step b2 HB3.out) HB4.out) HB5.out⟩

/-- The law: whatever text and whatever bit. -/
theorem law (s : ByteArray) (a : Int) (ha : (Lit.int .u16 a).wf = true) (w : World) :
    Calls Try.prog 6 #[.string s, .int .u16 a] w fun e w' => e = .returned (.bool true) ∧ Below w.heap.size w w' := by
  have h := wf_u16 ha
  obtain ⟨n, rfl⟩ := Int.eq_ofNat_of_zero_le h.1
  obtain ⟨u, hu, hl⟩ := few s
  obtain ⟨k, hk⟩ := Ev.rounds hu
  exact bit_any k s n (by omega) u hk hl w
end Go.Proofs.Ytmlnkdknpogknaa.TagBit
