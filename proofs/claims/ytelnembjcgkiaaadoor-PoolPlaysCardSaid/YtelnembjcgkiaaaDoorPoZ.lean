/- The document's pool: Handles. -/
import Derived.Test.YtelnembjcgkiaaaDoorPoY
namespace Go.Proofs.YtelnembjcgkiaaaDoor
open Go.RowKit
set_option linter.unusedVariables false
set_option linter.unusedSimpArgs false

/-- The handles of a list of places. -/
def hnd : Nat → List Pt → List Int
  | _, [] => []
  | k, p :: r => (if p.2.1 = true then [p.1 * 4096 + (k : Int)] else []) ++ hnd (k + 1) r
theorem hnd_snoc (p : Pt) : ∀ (L : List Pt) (k : Nat), hnd k (L ++ [p]) = hnd k L ++ (if p.2.1 = true then [p.1 * 4096 + ((k + L.length : Nat) : Int)] else [])
  | [], k => by simp [hnd]
  | q :: r, k => by
    show _ ++ hnd (k + 1) (r ++ [p]) = (_ ++ hnd (k + 1) r) ++ _
    rw [hnd_snoc p r (k + 1), List.append_assoc, List.length_cons, show k + 1 + r.length = k + (r.length + 1) by omega]
theorem hnd_le : ∀ (L : List Pt) (k : Nat), (hnd k L).length ≤ L.length
  | [], _ => Nat.le_refl _
  | q :: r, k => by
    have := hnd_le r (k + 1)
    show (_ ++ hnd (k + 1) r).length ≤ _
    rw [List.length_append, List.length_cons]
    split <;> simp <;> omega
theorem hnd_take {L : List Pt} {t : Nat} (h : t < L.length) : hnd 0 (L.take (t + 1)) = hnd 0 (L.take t) ++ (if L[t].2.1 = true then [L[t].1 * 4096 + (t : Int)] else []) := by
  rw [List.take_succ_eq_append_getElem h, hnd_snoc, List.length_take, show 0 + min t L.length = t by omega]
set_option maxHeartbeats 8000000 in
set_option maxRecDepth 100000 in
theorem rhandles_any (L : List Pt) (v : Value) (ok : Nat → Prop) (w : World) (hv : Sl w v L.length (fl5 L) ok) (hL : L.length ≤ 4096) (hg : ∀ p ∈ L, 0 ≤ p.1 ∧ p.1 ≤ 1000000000) :
    Calls Tryd.prog 24 #[v] w fun e w' => ∃ u, e = .returned u ∧ Sl w' u (hnd 0 L).length ((hnd 0 L).map (Value.int .u64)) (fun g => w.heap.size ≤ g) ∧ Below w.heap.size w w' := by
  have HV := Lib.hid hv
  obtain ⟨a, cap, rfl, hc1, hc2, hcell⟩ := hv
  have HC := Lib.hid hcell
  obtain ⟨len, hlen⟩ : ∃ n : Nat, L.length = n := ⟨_, rfl⟩
  have HL := Lib.hid hlen
  have HG := Lib.hid hg
  rw [hlen] at hc1 hL ⊢
  clear hcell hlen hc1 hc2 hg
  go_enter Tryd.func24, Tryd.ntmps24
  go_wp2_with fail
  go_loopw [3, 4] (fun u z wr => ∃ t : Nat, z = .int .i64 t ∧ t ≤ len ∧ wr.ownsRow w.heap.size 23 1 u (hnd 0 (L.take t)).length ((hnd 0 (L.take t)).map (Value.int .u64)) ∧ Below w.heap.size w wr) (fun _ z _ => len - (intOf z).toNat)
  case atStart => exact ⟨0, rfl, by omega, ⟨rfl, .inl ⟨rfl, rfl⟩⟩, Below.refl _ _⟩
  case round =>
    obtain ⟨t, rfl, ht, hO, hB⟩ := hrel
    have HO := Lib.hid hO
    have HB := Lib.hid hB
    by_cases hlt : t < len
    · have d1 : decide ((t : Int) < (len : Int)) = true := dec_t (by omega)
      obtain ⟨g, rfl, hg, _, hcl⟩ := HC.out (by rw [HL.out]; omega)
      have htl : t < L.length := by rw [HL.out]; exact hlt
      obtain ⟨⟨gn, tk, x⟩, hp⟩ : ∃ p, L[t] = p := ⟨_, rfl⟩
      have hq1 : w.cell? ⟨g, t * 5 + 1, none⟩ = some (.bool tk) := hcl _ _ (fl5_get htl hp (c := 1) rfl)
      have hti : (t : Int) < (len : Int) := by omega
      have HP := Lib.hid hp
      have HGN := Lib.hid (show 0 ≤ gn ∧ gn ≤ 1000000000 by have := HG.out _ (List.getElem_mem htl); rw [hp] at this; exact this)
      clear hcl hp
      have y1 := (hB.cell (p := ⟨g, t * 5 + 1, none⟩) hg).trans hq1
      have w1 := wrap_succ (show t ≤ 1000000 by omega)
      have HLE := Lib.hid (show (hnd 0 (L.take t)).length ≤ 1000000000 by have := hnd_le (L.take t) 0; rw [List.length_take] at this; omega)
      have HT := Lib.hid (hnd_take htl)
      rw [HP.out] at HT
      have HV2 := Lib.hid (HV.out.below hB (fun g hg _ => hg))
      have HHD := Lib.hid (fun X (hX : Below wr.heap.size wr X) => rhandle_any L _ ok X (HV2.out.below hX (fun g hg _ => hg)) (by rw [HL.out]; exact hL) t htl gn (by rw [HP.out]) HGN.out.1 HGN.out.2)
      rw [HL.out] at HHD
      clear hO hB hq1
      cases tk with
      | false =>
        go_wp2_with fail
        go_roundw
        case measure => exact step_lt hlt
        case rel =>
          refine ⟨t + 1, by simp, by omega, ?_, HB.out⟩
          have h1 := HT.out
          try dsimp only at h1
          rw [if_neg (by simp), List.append_nil] at h1
          rw [h1]
          exact HO.out
      | true =>
        go_wp2_with (first
          | (go_at_call 27; refine (HHD.out _ (Below.refl _ _)).mono ?_; rintro e w3 ⟨rfl, hb3⟩; have HO3 := Lib.hid (ownsRow_only HO.out (only_of hb3 fun _ => False) (fun _ _ h => h)); have HB3 := Lib.hid (below_then HB.out hb3); clear hb3)
          | (at_builtin; refine wpList_grow1_at rfl (.tmp 16) (.tmp 20) 28 rfl w.heap.size 23 1 8 Tryd.underlying28 (by kernel_rfl) (by decide) (by decide) _ _ _ rfl HO3.out [.int .u64 (gn * 4096 + (t : Int))] rfl rfl (by simp [Value.oneCell']) HLE.out HB3.out.size _ ?_; intro v' w2 hown' ho' _; have HO2 := Lib.hid hown'; have HB2 := Lib.hid (Only.below HB3.out ho' (fun k hk => (ownsRow_base HO3.out k hk.symm).1) HB3.out.size); clear hown' ho'))
        go_roundw
        case measure => exact step_lt hlt
        case rel =>
          refine ⟨t + 1, by simp, by omega, ?_, HB2.out⟩
          have h1 := HT.out
          try dsimp only at h1
          rw [if_pos trivial] at h1
          rw [h1, List.length_append, List.map_append]
          exact HO2.out
    · obtain rfl : t = len := by omega
      have d1 : decide ((t : Int) < (t : Int)) = false := dec_f (by omega)
      rw [← HL.out, List.take_length] at hO
      have HO3 := Lib.hid hO
      clear hO hB HO
      go_wp2_with fail
      go_ret
      exact ⟨_, rfl, Sl.of_own HO3.out, HB.out⟩
end Go.Proofs.YtelnembjcgkiaaaDoor
