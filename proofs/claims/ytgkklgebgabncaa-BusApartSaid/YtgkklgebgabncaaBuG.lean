/- The bus: the chapter's example. -/
import Derived.Test.YtgkklgebgabncaaBuF
import Derived.Test.YtgkklgebgabncaaFiB
namespace Go.Proofs.Ytgkklgebgabncaa
open Go.RowKit
set_option linter.unusedVariables false
set_option linter.unusedSimpArgs false
open Go.Lib Go.Sort
theorem BuAt.only {w w' : World} {S : Nat → Prop} {b bm : Nat} {M : Rn} {c : Nat} (h : BuAt w b bm M c) (hb : Only S w w') (h1 : ¬ S b) (h2 : ¬ S bm) : BuAt w' b bm M c :=
  { h with row := h.row.only hb h1, m := h.m.only hb h2 }
theorem BuAt.lt {w : World} {b bm : Nat} {M : Rn} {c : Nat} (h : BuAt w b bm M c) : b < w.heap.size ∧ bm < w.heap.size := ⟨h.row.lt, h.m.lt⟩
theorem BuOk.nil : BuOk [] := ⟨fun p hp => by simp at hp, by simp⟩
def M1 (f : Nat) : Rn := [((256, 16), devV f, 0)]
theorem ok1 (f : Nat) : BuOk (M1 f) := ⟨fun p hp => by simp only [M1, List.mem_singleton] at hp; subst hp; exact (⟨by decide, by decide, by decide, by decide⟩ : R32 (256, 16)), by simp [M1]⟩
theorem has1 (f : Nat) : HasAt (M1 f) 260 (256, 16) f where
  al := by decide
  val := by simp [M1, valL_cons]
  has := by decide
  one q hq _ := by simp only [M1, List.mem_singleton] at hq; subst hq; rfl
theorem not1 (f : Nat) (x : Int) (h : hasB (256, 16) x = false) : ¬ (x % 4 = 0 ∧ ∃ q ∈ M1 f, hasB q.1 x = true) := by
  rintro ⟨_, q, hq, hh⟩
  simp only [M1, List.mem_singleton] at hq
  subst hq
  rw [h] at hh
  cases hh
def l1 : Fm := Fm.put (fun _ => none) 4 ⟨7, 0, 0, 0⟩
set_option maxHeartbeats 8000000 in
set_option maxRecDepth 100000 in
theorem known03 (w : World) :
    Calls Try.prog 25 #[] w fun e w' => e = .returned (.bool true) ∧ Below w.heap.size w w' := by
  have att0 : attE [] (256, 16) = 0 := by decide
  go_enter Try.func25, Try.ntmps25
  go_upto_region 4 with (first | (go_at_call 30; refine (bnew_any _).mono ?_; rintro e w1 ⟨b, bm, rfl, hb0, hbm0, hA, hB1⟩) | (go_at_call 10; refine (rnew_any _).mono ?_; rintro e w2 ⟨f, fm, rfl, hf0, hfm0, hF, hB2⟩) | (go_at_call 31; refine (attach_any b bm [] 0 256 16 23 (.pointer (some ⟨f, 0, none⟩)) _ (hA.ext hB2) BuOk.nil ⟨by decide, by decide, by decide, by decide⟩).mono ?_; rintro e w3 ⟨rfl, ⟨c3, hA3⟩, hO3⟩; rw [att0]) | (go_at_call 12; refine (define_put f fm (fun _ => none) 4 ⟨7, 0, 0, 0⟩ _ (hF.only hO3 (by have := hA.lt; omega) (by have := hA.lt; omega)) (by decide) (by decide) (by decide) rfl (Lib.hid ⟨by decide, by decide, by decide, by decide⟩)).mono ?_; rintro e w4 ⟨rfl, hF4, hO4⟩))
  have eM : attM [] 0 (256, 16) (devV f) = M1 f := by unfold attM; rw [if_pos att0]; rfl
  have hA4 : BuAt w3 b bm (M1 f) c3 := eM ▸ hA3
  have hl1 := hA.lt
  have hl2 := hB2.size
  refine wp_name (Pr := fun W => BuAt W b bm (M1 f) c3 ∧ FiAt W f fm l1 ∧ Below w.heap.size w W) ⟨hA4.only hO4 (by omega) (by omega), hF4, Only.below (Only.below (below_then hB1 hB2) hO3 (fun k hk => by omega) (by have := hB1.size; omega)) hO4 (fun k hk => by have := hB1.size; omega) (by have := hB1.size; have := hO3.size; omega)⟩ ?_
  clear eM hA4 hl1 hl2 hO4 hO3 hF4 hA3 hB2 hF hf0 hfm0 hB1 hA hb0 hbm0 att0
  rintro W ⟨hA, hF, hB⟩
  have HA := Lib.hid hA
  have HF := Lib.hid hF
  have HB := Lib.hid hB
  have HK := Lib.hid (ok1 f)
  have v1 : (findV l1 (260 - 256)).v = 7 := rfl
  have v2 : findE l1 (260 - 256) = 0 := rfl
  have q1 : (if (272 : Int) % 4 = 0 then (10 : Int) else 11) = 10 := by decide
  have q2 : (if (258 : Int) % 4 = 0 then (10 : Int) else 11) = 11 := by decide
  have HN1 := Lib.hid (not1 f 272 (by decide))
  have HN2 := Lib.hid (show ¬ ((258 : Int) % 4 = 0 ∧ ∃ q ∈ M1 f, hasB q.1 258 = true) from fun h => absurd h.1 (by decide))
  clear hA hF hB
  refine wp_start (w := W) ?_
  intro x
  go_upto_region 5 with (go_at_call 34; refine (bload_fi b bm (M1 f) c3 260 256 16 f fm l1 _ (HA.out.ext (Ext.ok _)) HK.out (by decide) (by decide) (has1 f) (HF.out.ext (Ext.ok _))).mono ?_; rintro e wr ⟨rfl, hbr⟩; rw [v1, v2]; obtain ⟨y, rfl⟩ := Ext.step _ hbr; clear hbr)
  go_upto_region 6 with (go_at_call 33; refine (find_gen (.pointer (some ⟨b, 0, none⟩)) (M1 f) 260 _ (regsOf_live (HA.out.ext (Ext.ok _)) HK.out) HK.out (by decide) (by decide)).mono ?_; rintro e wr ⟨p1, p2, off, code, rfl, hFd, hbr⟩; obtain ⟨hr, rfl, rfl⟩ := (has1 f).finds hFd; clear hFd; obtain ⟨y, rfl⟩ := Ext.step _ hbr; clear hbr)
  refine wp_name (Pr := fun W2 => Below W.heap.size W W2) (below_new (Ext.ok _) _) ?_
  rintro W2 hb2
  have hA := HA.out.ext hb2
  have hF := HF.out.ext hb2
  have hB := below_then HB.out hb2
  clear HA HF HB
  have HA := Lib.hid hA
  have HF := Lib.hid hF
  have HB := Lib.hid hB
  clear hA hF hB hb2
  refine wp_start (w := W2) ?_
  intro x2
  go_upto_region 7 with (go_at_call 34; refine (bload_no (.pointer (some ⟨b, 0, none⟩)) (M1 f) 272 _ (regsOf_live (HA.out.ext (Ext.ok _)) HK.out) HK.out (by decide) (by decide) HN1).mono ?_; rintro e wr ⟨rfl, hbr⟩; rw [q1]; obtain ⟨y, rfl⟩ := Ext.step _ hbr; clear hbr)
  go_wp2_with (go_at_call 34; refine (bload_no (.pointer (some ⟨b, 0, none⟩)) (M1 f) 258 _ (regsOf_live (HA.out.ext (Ext.ok _)) HK.out) HK.out (by decide) (by decide) HN2).mono ?_; rintro e wr ⟨rfl, hbr⟩; rw [q2]; obtain ⟨y, rfl⟩ := Ext.step _ hbr; clear hbr)
  go_ret
  exact ⟨rfl, below_then HB.out (Ext.ok _)⟩
end Go.Proofs.Ytgkklgebgabncaa
