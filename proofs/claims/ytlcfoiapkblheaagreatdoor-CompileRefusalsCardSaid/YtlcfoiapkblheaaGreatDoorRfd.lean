/- CompileRefusals: plain words -/
import Derived.Test.YtlcfoiapkblheaaGreatDoorGkx
import Derived.Test.YtlcfoiapkblheaaGreatDoorGkn
import Derived.Test.YtlcfoiapkblheaaGreatDoorNmd
namespace Go.Proofs.YtlcfoiapkblheaaGreatDoor
open Go.RowKit Go.Proofs Go.Shelf

theorem Fo.sum_kn : ∀ f : Fo, f.sum = decide (0 < f.kn [15])
  | .nil => rfl
  | .cons k n m i d A c s r => by
    rw [Fo.sum, Fo.sum_kn s, Fo.sum_kn r, Fo.kn, kindN, kindN, Bool.eq_iff_iff]
    simp only [Bool.or_eq_true, beq_iff_eq, decide_eq_true_eq]
    by_cases hk : k = 15 <;> simp [hk] <;> omega
theorem Dc.sum_kn (x : Dc) : (x.k == 15 || x.s.sum) = decide (0 < kindN x.k [15] + x.s.kn [15]) := by
  rw [Fo.sum_kn, kindN, kindN, Bool.eq_iff_iff]
  simp only [Bool.or_eq_true, beq_iff_eq, decide_eq_true_eq]
  by_cases hk : x.k = 15 <;> simp [hk] <;> omega
theorem ba_ext' {a b : ByteArray} (h : a.data.toList = b.data.toList) : a = b := by
  cases a with
  | mk x =>
    cases b with
    | mk y => exact congrArg ByteArray.mk (Array.ext' h)
theorem ba_extL {a b : ByteArray} (h : a.toList = b.toList) : a = b := ba_ext' (by rw [← ByteArray.toList_eq, ← ByteArray.toList_eq]; exact h)
theorem hasN_hasS (l : List ByteArray) (s : ByteArray) : hasN l s = hasS l s := by
  unfold hasN hasS
  congr 1
  funext t
  by_cases h : t = s
  · subst h; simp
  · rw [beq_false_of_ne (fun e => h (ba_ext' e)), beq_false_of_ne (fun e => h (ba_extL e).symm)]
/-- What the law asks of a reference. -/
def lawRef (L : List Int) (uses : List ByteArray) (r : ByteArray × Int) : Bool := if r.1.toList.isEmpty = true then hasI L r.2 else hasN uses r.1
theorem lawRef_eq (L : List Int) (uses : List ByteArray) (r : ByteArray × Int) : lawRef L uses r = refOK L uses r := by
  unfold lawRef refOK
  rw [hasN_hasS]
end Go.Proofs.YtlcfoiapkblheaaGreatDoor
