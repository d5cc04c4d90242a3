/- CipherTurns: a quarter round can be turned back. -/
import Derived.Test.YthpjdgddpnpdpaaL
import Derived.Test.YthpjdgddpnpdpaaT
import Derived.Test.YthpjdgddpnpdpaaRow
namespace Go.Proofs.Ythpjdgddpnpdpaa
open Go.ChangeShapes Go.WideShapes Go.ChangeAt Go.RowKit

set_option maxRecDepth 100000 in
set_option maxHeartbeats 4000000 in
theorem turns_walk (a b c d : Nat) (ha : a < 4294967296) (hb : b < 4294967296) (hc : c < 4294967296) (hd : d < 4294967296) (w : World) :
    Calls Try.prog 7 #[.int .u32 a, .int .u32 b, .int .u32 c, .int .u32 d] w fun e w' => e = .returned (.bool true) ∧ Below w.heap.size w w' := by
  obtain ⟨a1, A1⟩ : ∃ a1, sm a b = a1 := ⟨_, rfl⟩
  obtain ⟨t1, T1⟩ : ∃ t1, xo d a1 = t1 := ⟨_, rfl⟩
  obtain ⟨d1, D1⟩ : ∃ d1, ro 16 t1 = d1 := ⟨_, rfl⟩
  obtain ⟨c1, C1⟩ : ∃ c1, sm c d1 = c1 := ⟨_, rfl⟩
  obtain ⟨t2, T2⟩ : ∃ t2, xo b c1 = t2 := ⟨_, rfl⟩
  obtain ⟨b1, B1⟩ : ∃ b1, ro 12 t2 = b1 := ⟨_, rfl⟩
  obtain ⟨a2, A2⟩ : ∃ a2, sm a1 b1 = a2 := ⟨_, rfl⟩
  obtain ⟨t3, T3⟩ : ∃ t3, xo d1 a2 = t3 := ⟨_, rfl⟩
  obtain ⟨d2, D2⟩ : ∃ d2, ro 8 t3 = d2 := ⟨_, rfl⟩
  obtain ⟨c2, C2⟩ : ∃ c2, sm c1 d2 = c2 := ⟨_, rfl⟩
  obtain ⟨t4, T4⟩ : ∃ t4, xo b1 c2 = t4 := ⟨_, rfl⟩
  obtain ⟨b2, B2⟩ : ∃ b2, ro 7 t4 = b2 := ⟨_, rfl⟩
  have la1 : a1 < 4294967296 := A1 ▸ sm_lt _ _
  have lc1 : c1 < 4294967296 := C1 ▸ sm_lt _ _
  have la2 : a2 < 4294967296 := A2 ▸ sm_lt _ _
  have lc2 : c2 < 4294967296 := C2 ▸ sm_lt _ _
  have m1 : t1 < 4294967296 := T1 ▸ xo_lt _ _ hd la1
  have ld1 : d1 < 4294967296 := D1 ▸ ro_lt _ _ m1
  have m2 : t2 < 4294967296 := T2 ▸ xo_lt _ _ hb lc1
  have lb1 : b1 < 4294967296 := B1 ▸ ro_lt _ _ m2
  have m3 : t3 < 4294967296 := T3 ▸ xo_lt _ _ ld1 la2
  have ld2 : d2 < 4294967296 := D2 ▸ ro_lt _ _ m3
  have m4 : t4 < 4294967296 := T4 ▸ xo_lt _ _ lb1 lc2
  have lb2 : b2 < 4294967296 := B2 ▸ ro_lt _ _ m4
  have hq : qr a b c d = (a2, b2, c2, d2) := by simp only [qr, A1, T1, D1, C1, T2, B1, A2, T3, D2, C2, T4, B2]
  have hQ := Lib.hid (fun w => quarter_any a b c d hb hd w)
  rw [hq] at hQ
  have o1 : Hid (bits .or .u32 ((b2 : Int) / 128) ((b2 : Int) * 33554432 % 4294967296) = (t4 : Int)) := by
    have h1 : ((b2 : Int) * 33554432 % 4294967296) = ((b2 * 33554432 % 4294967296 : Nat) : Int) := by omega
    have h2 : ((b2 : Int) / 128) = ((b2 / 128 : Nat) : Int) := by omega
    rw [Hid, h1, h2, u32_or _ _ (Nat.lt_of_le_of_lt (Nat.div_le_self _ _) lb2) (Nat.mod_lt _ (by decide)), ← B2, back7 t4 m4]
  have o2 : Hid (bits .or .u32 ((d2 : Int) / 256) ((d2 : Int) * 16777216 % 4294967296) = (t3 : Int)) := by
    have h1 : ((d2 : Int) * 16777216 % 4294967296) = ((d2 * 16777216 % 4294967296 : Nat) : Int) := by omega
    have h2 : ((d2 : Int) / 256) = ((d2 / 256 : Nat) : Int) := by omega
    rw [Hid, h1, h2, u32_or _ _ (Nat.lt_of_le_of_lt (Nat.div_le_self _ _) ld2) (Nat.mod_lt _ (by decide)), ← D2, back8 t3 m3]
  have o3 : Hid (bits .or .u32 ((b1 : Int) / 4096) ((b1 : Int) * 1048576 % 4294967296) = (t2 : Int)) := by
    have h1 : ((b1 : Int) * 1048576 % 4294967296) = ((b1 * 1048576 % 4294967296 : Nat) : Int) := by omega
    have h2 : ((b1 : Int) / 4096) = ((b1 / 4096 : Nat) : Int) := by omega
    rw [Hid, h1, h2, u32_or _ _ (Nat.lt_of_le_of_lt (Nat.div_le_self _ _) lb1) (Nat.mod_lt _ (by decide)), ← B1, back12 t2 m2]
  have o4 : Hid (bits .or .u32 ((d1 : Int) / 65536) ((d1 : Int) * 65536 % 4294967296) = (t1 : Int)) := by
    have h1 : ((d1 : Int) * 65536 % 4294967296) = ((d1 * 65536 % 4294967296 : Nat) : Int) := by omega
    have h2 : ((d1 : Int) / 65536) = ((d1 / 65536 : Nat) : Int) := by omega
    rw [Hid, h1, h2, u32_or _ _ (Nat.lt_of_le_of_lt (Nat.div_le_self _ _) ld1) (Nat.mod_lt _ (by decide)), ← D1, back16 t1 m1]
  have x1 : Hid (bits .xor .u32 (t4 : Int) (c2 : Int) = (b1 : Int)) := by rw [Hid, xo_int _ _ m4 lc2, ← T4, xo_back]
  have x2 : Hid (bits .xor .u32 (t3 : Int) (a2 : Int) = (d1 : Int)) := by rw [Hid, xo_int _ _ m3 la2, ← T3, xo_back]
  have x3 : Hid (bits .xor .u32 (t2 : Int) (c1 : Int) = (b : Int)) := by rw [Hid, xo_int _ _ m2 lc1, ← T2, xo_back]
  have x4 : Hid (bits .xor .u32 (t1 : Int) (a1 : Int) = (d : Int)) := by rw [Hid, xo_int _ _ m1 la1, ← T1, xo_back]
  have s1 : Hid (IntKind.u32.wrap ((c2 : Int) - (d2 : Int)) = (c1 : Int)) := by rw [Hid, IntKind.wrap_u32, ← C2, sm_back _ _ lc1]
  have s2 : Hid (IntKind.u32.wrap ((a2 : Int) - (b1 : Int)) = (a1 : Int)) := by rw [Hid, IntKind.wrap_u32, ← A2, sm_back _ _ la1]
  have s3 : Hid (IntKind.u32.wrap ((c1 : Int) - (d1 : Int)) = (c : Int)) := by rw [Hid, IntKind.wrap_u32, ← C1, sm_back _ _ hc]
  have s4 : Hid (IntKind.u32.wrap ((a1 : Int) - (b : Int)) = (a : Int)) := by rw [Hid, IntKind.wrap_u32, ← A1, sm_back _ _ ha]
  clear hq A1 T1 D1 C1 T2 B1 A2 T3 D2 C2 T4 B2 la1 lc1 la2 lc2 m1 ld1 m2 lb1 m3 ld2 m4 lb2 ha hb hc hd
  go_enter Try.func7, Try.ntmps7
  go_wp2_with fail
  refine (hQ.out _).mono ?_
  rintro e w' ⟨rfl, rfl⟩
  clear hQ
  have := o1.out
  have := o2.out
  have := o3.out
  have := o4.out
  have := x1.out
  have := x2.out
  have := x3.out
  have := x4.out
  have := s1.out
  have := s2.out
  have := s3.out
  have := s4.out
  go_wp2_with fail
  refine (awake4_any _).mono ?_
  rintro e w' ⟨rfl, hb⟩
  go_wp2
  go_ret
  exact ⟨rfl, hb⟩

set_option maxRecDepth 100000 in
theorem cipherTurns_lifted (os : Os) (started : os.Started) (H : Type) (enc : TypeId × Value → H) :
    ReturnsInHanded {} Try.checked os 7 .any (Rows.cipherTurnsSpec.pre6 enc Try.prog Try.f7 Rows.cipherTurnsRow.domain false) (Rows.cipherTurnsSpec.post enc Try.prog Try.f7 false true false false) := by
  refine returnsInHanded_of_change (C := Try.checked) ownKnob_none started (by kernel_rfl) Try.func7
    (ChangeSpec.witness6 (enc := enc) (C := Try.checked) false ⟨#[], #[.int .u32 0, .int .u32 0, .int .u32 0, .int .u32 0], []⟩ 8 (by kernel_rfl) (by kernel_rfl) (by kernel_rfl) (by kernel_rfl)) ?_
  intro W base args ds gs before hval0 hW _ _
  have hval : ∀ (j : Nat) t v, Try.f7.params[j]? = some t → args[j]? = some v → Value.okWide Try.prog W .any base t v := hval0
  have hWhole := hW
  obtain ⟨p, q, hA0, hV, rfl, hfz, hnd⟩ := hW
  have hA : DataW.TrodAll enc Try.prog W 0 (fun _ => true) true Try.f7.params.toList args.toList ds p := hA0
  rw [Try.params7] at hA hval
  obtain ⟨v0, vs0, d0, ds0, p0, q0, hargs0, rfl, rfl, h0, r0⟩ := trodAll_cons hA
  obtain ⟨v1, vs1, d1, ds1, p1, q1, hargs1, rfl, rfl, h1, r1⟩ := trodAll_cons r0
  obtain ⟨v2, vs2, d2, ds2, p2, q2, hargs2, rfl, rfl, h2, r2⟩ := trodAll_cons r1
  obtain ⟨v3, vs3, d3, ds3, p3, q3, hargs3, rfl, rfl, h3, r3⟩ := trodAll_cons r2
  obtain ⟨rfl, rfl, rfl⟩ := trodAll_nil r3
  subst hargs1
  subst hargs2
  subst hargs3
  obtain rfl : args = #[v0, v1, v2, v3] := by cases args; simp_all
  obtain ⟨rfl, rfl⟩ := trodVars_none hV
  obtain ⟨x0, rfl, hb0⟩ := open_nat 4294967296 Try.underlying22 wf_u32' (hval 0 22 v0 rfl rfl) h0
  obtain ⟨x1, rfl, hb1⟩ := open_nat 4294967296 Try.underlying22 wf_u32' (hval 1 22 v1 rfl rfl) h1
  obtain ⟨x2, rfl, hb2⟩ := open_nat 4294967296 Try.underlying22 wf_u32' (hval 2 22 v2 rfl rfl) h2
  obtain ⟨x3, rfl, hb3⟩ := open_nat 4294967296 Try.underlying22 wf_u32' (hval 3 22 v3 rfl rfl) h3
  refine (turns_walk x0 x1 x2 x3 hb0 hb1 hb2 hb3 W).mono fun e W' ⟨he, hB⟩ => ?_
  subst he
  exact ⟨_, rfl, law_post laidOut (by rw [Try.params7]; decide +kernel) rfl (by kernel_rfl) Try.underlying4 hWhole rfl rfl rfl hB⟩

theorem cipherTurns : Rows.CipherTurnsSaid :=
  OpenClaim.holds_of_wide 7 Try.f7 rfl rfl rfl rfl rfl rfl rfl ⟨rfl, rfl, rfl, rfl, rfl⟩ rfl rfl rfl rfl rfl (by kernel_rfl) Try.func7 (by kernel_rfl)
    (of_decide_eq_true (by kernel_rfl)) (by unfold Func.isWrapper; first | (rw [if_pos (by decide +kernel)]; kernel_rfl) | (rw [if_neg (by decide +kernel)]; exact ⟨rfl, rfl⟩))
    (fun os started H enc _ => cipherTurns_lifted os started H enc)
end Go.Proofs.Ythpjdgddpnpdpaa
