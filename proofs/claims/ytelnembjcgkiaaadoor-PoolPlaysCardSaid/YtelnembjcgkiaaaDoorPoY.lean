/- The document's pool: New. -/
import Derived.Test.YtelnembjcgkiaaaDoorPoX
import Derived.Test.YtelnembjcgkiaaaDoorAppS
namespace Go.Proofs.YtelnembjcgkiaaaDoor
open Go.RowKit
set_option linter.unusedVariables false
set_option linter.unusedSimpArgs false

theorem wrap_succ {n : Nat} (h : n ≤ 1000000) : wrap64 ((n : Int) + 1) = (n : Int) + 1 := by unfold wrap64; omega
theorem step_lt {n t : Nat} (h : t < n) : n - ((t : Int) + 1).toNat < n - ((t : Int)).toNat := by omega
def zpt : Pt := (1, false, 0, 0, 0)
theorem rep_snoc (t : Nat) : List.replicate (t + 1) zpt = List.replicate t zpt ++ [zpt] := List.replicate_succ'
set_option maxHeartbeats 8000000 in
set_option maxRecDepth 100000 in
theorem rnew_any (n : Nat) (w : World) (hn : n ≤ 4096) :
    Calls Tryd.prog 18 #[.int .i64 n] w fun e w' => ∃ u, e = .returned u ∧ Sl w' u (List.replicate n zpt).length (fl5 (List.replicate n zpt)) (fun g => w.heap.size ≤ g) ∧ Below w.heap.size w w' := by
  go_enter Tryd.func18, Tryd.ntmps18
  go_wp2_with fail
  go_loopw [3, 4] (fun u z wr => ∃ t : Nat, z = .int .i64 t ∧ t ≤ n ∧ wr.ownsRow w.heap.size 58 5 u (List.replicate t zpt).length (fl5 (List.replicate t zpt)) ∧ Below w.heap.size w wr) (fun _ z _ => n - (intOf z).toNat)
  case atStart => exact ⟨0, rfl, by omega, ⟨rfl, .inl ⟨rfl, rfl⟩⟩, Below.refl _ _⟩
  case round =>
    obtain ⟨t, rfl, ht, hO, hB⟩ := hrel
    have HO := Lib.hid hO
    have HB := Lib.hid hB
    by_cases hlt : t < n
    · have d1 : decide ((t : Int) < (n : Int)) = true := dec_t (by omega)
      have w1 := wrap_succ (show t ≤ 1000000 by omega)
      have HLE := Lib.hid (show (List.replicate t zpt).length ≤ 1000000000 by rw [List.length_replicate]; omega)
      clear hO hB
      go_wp2_with (at_builtin; refine wpList_grow1_at rfl (.tmp 10) (.tmp 12) 46 rfl w.heap.size 58 5 40 Tryd.underlying46 (by kernel_rfl) (by decide) (by decide) _ _ _ rfl HO.out [.int .u64 1, .bool false, .int .u64 0, .int .u64 0, .int .u64 0] rfl rfl (by simp [Value.oneCell']) HLE.out HB.out.size _ ?_; intro v' w2 hown' ho' _; have HO2 := Lib.hid hown'; have HB2 := Lib.hid (Only.below HB.out ho' (fun k hk => (ownsRow_base HO.out k hk.symm).1) HB.out.size); clear hown' ho')
      go_roundw
      case measure => exact step_lt hlt
      case rel =>
        refine ⟨t + 1, by simp, by omega, ?_, HB2.out⟩
        rw [rep_snoc, List.length_append, fl5_snoc]
        exact HO2.out
    · obtain rfl : t = n := by omega
      have d1 : decide ((t : Int) < (t : Int)) = false := dec_f (by omega)
      clear hO hB
      go_wp2_with fail
      go_ret
      exact ⟨_, rfl, Sl.of_own HO.out, HB.out⟩
end Go.Proofs.YtelnembjcgkiaaaDoor
