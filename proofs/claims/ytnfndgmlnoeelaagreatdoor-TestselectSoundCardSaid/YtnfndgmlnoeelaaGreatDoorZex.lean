/- ref27.Equal, at equal values -/
import Derived.Test.YtnfndgmlnoeelaaGreatDoorZew
namespace Go.Proofs.YtnfndgmlnoeelaaGreatDoor
open Go Go.RowKit Go.Proofs Go.Shelf
def CdIn (Cd : Code) (w : World) : Prop:=∀ A c s,Cd A c s → CdW w w.heap.size A c s
theorem CdIn.below {Cd : Code} {w w' : World} (h : CdIn Cd w) (hb : Below w.heap.size w w') : CdIn Cd w':=fun A c s hc => CdW.later (fun k hk => hb.block k hk) hb.size A c s (h A c s hc)
theorem CdIn.xp {Cd : Code} {w : World} {A : Option Addr} {c j : Nat} {s : Sk} {x : Xp} (h : CdIn Cd w) (hc : Cd A c s) (e : s.at j = some x) : ∃ b o sA sc,A = some ⟨b,o,none⟩ ∧ w.cell? ⟨b,o + j * 6,none⟩ = some (.int .i64 x.k) ∧ w.cell? ⟨b,o + j * 6 + 1,none⟩ = some (.string x.n) ∧ w.cell? ⟨b,o + j * 6 + 2,none⟩ = some (.string x.m) ∧ w.cell? ⟨b,o + j * 6 + 3,none⟩ = some (.int .i64 x.i) ∧ w.cell? ⟨b,o + j * 6 + 4,none⟩ = some (.int .i64 x.d) ∧ w.cell? ⟨b,o + j * 6 + 5,none⟩ = some (.slice sA x.s.len sc) ∧ CdW w w.heap.size sA sc x.s:=by
 obtain ⟨b,o,e1,hx⟩:=(h A c s hc).at e
 obtain ⟨sA,sc,h5,h6⟩:=hx.c5
 exact ⟨b,o,sA,sc,e1,hx.c0,hx.c1,hx.c2,hx.c3,hx.c4,h5,h6⟩
end Go.Proofs.YtnfndgmlnoeelaaGreatDoor
/- law40.equal, at equal values -/
namespace Go.Proofs.YtnfndgmlnoeelaaGreatDoor
open Go Go.RowKit Go.Proofs Go.Shelf
end Go.Proofs.YtnfndgmlnoeelaaGreatDoor
