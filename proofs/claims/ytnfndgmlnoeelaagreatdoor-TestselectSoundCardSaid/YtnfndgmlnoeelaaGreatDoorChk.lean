/- bind.Check -/
import Derived.Test.YtnfndgmlnoeelaaGreatDoorZlj
import Derived.Deep.QuietTactic
import Derived.BigQuiet
import Derived.IntWalk
namespace Go.Proofs.YtnfndgmlnoeelaaGreatDoor
open Go.RowKit Go.Proofs Go.Shelf

theorem below_drewN {B : Nat} {w w' : World} (h : Below B w w') (n : Nat) : Below B w (w'.drewN n):=⟨h.os,h.tape,h.output,h.size,h.block⟩

set_option maxRecDepth 100000 in
set_option maxHeartbeats 2000000 in
theorem bCheck_any (label : ByteArray) (uses : List ByteArray) (uA : Option Addr) (uc : Nat) (decls : List Dc) (dA : Option Addr) (dc : Nat) (w : World) (hu : SlS w w.heap.size uA uc uses) (hd : SlD w w.heap.size dA dc decls) :
  Calls Tryz.prog 57 #[.agg #[.string label,.slice uA uses.length uc,.slice dA decls.length dc]] w fun e w' => e = .returned (.int .i64 (checkE label uses decls)) ∧ Below w.heap.size w w':=by
 obtain ⟨E,HE⟩ : ∃ E,Hid (E = checkE label uses decls):=⟨_,rfl⟩
 rw [← HE.out]
 obtain ⟨W0,hW0⟩ : ∃ W0,w.alloc (.cells #[.string label,.slice uA uses.length uc,.slice dA decls.length dc] 58) = W0:=⟨_,rfl⟩
 have hzw : w.heap.size < W0.heap.size:=by subst hW0;simp
 have hB0 : Below w.heap.size w W0:=by subst hW0;exact (Below.refl _ _).alloc (Nat.le_refl _) _
 have h0 : W0.cell? ⟨w.heap.size,0,none⟩ = some (.string label):=by subst hW0;go_simp
 have h1 : W0.cell? ⟨w.heap.size,1,none⟩ = some (.slice uA uses.length uc):=by subst hW0;go_simp
 have h2 : W0.cell? ⟨w.heap.size,2,none⟩ = some (.slice dA decls.length dc):=by subst hW0;go_simp
 have hu0:=hu.keep (w':=W0) (B':=w.heap.size) (Nat.le_refl _) fun p hp => hB0.cell hp
 have hd0:=hd.keep (w':=W0) (B':=w.heap.size) (Nat.le_refl _) fun p hp => hB0.cell hp
 have HC : Hid (∀ X,Below W0.heap.size W0 X → Below w.heap.size w X ∧ w.heap.size < X.heap.size ∧ SlS X X.heap.size uA uc uses ∧ SlD X w.heap.size dA dc decls ∧ X.cell? ⟨w.heap.size,0,none⟩ = some (.string label) ∧ X.cell? ⟨w.heap.size,1,none⟩ = some (.slice uA uses.length uc) ∧ X.cell? ⟨w.heap.size,2,none⟩ = some (.slice dA decls.length dc)):=fun X hX =>
  ⟨hB0.trans (hX.mono (by omega)),Nat.lt_of_lt_of_le hzw hX.size,hu0.keep (Nat.le_trans (Nat.le_of_lt hzw) hX.size) (fun p hp => hX.cell (by omega)),hd0.keep (Nat.le_refl _) (fun p hp => hX.cell (by omega)),(hX.cell (p:=⟨w.heap.size,0,none⟩) hzw).trans h0,(hX.cell (p:=⟨w.heap.size,1,none⟩) hzw).trans h1,(hX.cell (p:=⟨w.heap.size,2,none⟩) hzw).trans h2⟩
 have hul:=hu.1
 have hul2:=hu.2.1
 have hdl:=hd.1
 have hdl2:=hd.2.1
 unfold maxLen at hul2 hdl2
 clear h1 h2 hu hd hu0 hd0 hB0
 have HL:=Lib.hid (label_any label W0)
 obtain ⟨E1,HE1⟩ : ∃ E1,Hid (srcE uses = E1):=⟨_,rfl⟩
 obtain ⟨E2,HE2⟩ : ∃ E2,Hid (useAll label uses uses.length 0 = E2):=⟨_,rfl⟩
 obtain ⟨bl,Hbl⟩ : ∃ bl,Hid (labelB label = bl):=⟨_,rfl⟩
 have HD : Hid (E = if bl = false then 6 else if E1 ≠ 0 then E1 else if E2 ≠ 0 then E2 else if 100 < decls.length then 4 else declsE label none decls):=by
  show E = _
  rw [HE.out,checkE,Hbl.out,HE1.out,HE2.out]
 clear HE
 go_enter Tryz.func57,Tryz.ntmps57
 go_wp2_with fail
 refine HL.out.mono ?_
 rintro e w1 ⟨rfl,hb1⟩
 rw [Hbl.out]
 obtain ⟨hB1,hz1,hs1,hd1,y0,y1,y2⟩:=HC.out w1 hb1
 have HB1:=Lib.hid (And.intro hb1 (And.intro hB1 hd1))
 clear hb1 hB1 hd1 hW0 h0 HL
 cases bl
 ·have HR:=Lib.hid (HD.out.trans (if_pos rfl))
  go_wp2
  go_ret
  exact ⟨by rw [HR.out];rfl,HB1.out.2.1⟩
 have HD2:=Lib.hid (HD.out.trans (if_neg (by simp)))
 have HC1:=Lib.hid (checkSource_any uses uA uc w1 hs1)
 clear hs1 HD
 go_wp2_with fail
 refine HC1.out.mono ?_
 rintro e w2 ⟨rfl,hb2⟩
 rw [HE1.out]
 have hb2':=HB1.out.1.trans (hb2.mono HB1.out.1.size)
 obtain ⟨hB2,hz2,hs2,hd2,x0,x1,x2⟩:=HC.out w2 hb2'
 have HB2:=Lib.hid (And.intro hb2' (And.intro hB2 (And.intro hs2 hd2)))
 clear hb2 hb2' hB2 y0 y1 y2 HC1 hs2 hd2
 by_cases e1 : E1 = 0
 rotate_left
 ·have HR:=Lib.hid (HD2.out.trans (if_pos e1))
  have e1' : (E1 != 0) = true:=by simpa using e1
  go_wp2
  go_ret
  exact ⟨by rw [HR.out];rfl,HB2.out.2.1⟩
 subst e1
 have HD3:=Lib.hid (HD2.out.trans (if_neg (by simp)))
 go_wp2
 go_loopg [4,5,23] uses.length (fun g _ _ ct wr => ∃ j : Nat,g = uses.length - j ∧ j ≤ uses.length ∧ ct = .int .i64 j ∧ E2 = useAll label uses (uses.length - j) j ∧ Below W0.heap.size W0 wr)
 case atStart => exact ⟨0,rfl,by omega,rfl,by rw [← HE2.out];rfl,HB2.out.1⟩
 case round =>
  obtain ⟨j,HG,hj,rfl,HA,HB⟩:=hrel
  have HG':=Lib.hid (And.intro HG (And.intro HA HB))
  obtain ⟨hBr,hzr,hsr,hdr,y0,y1,y2⟩:=HC.out wr HB
  have HBr:=Lib.hid (And.intro HB (And.intro hBr hdr))
  clear HG HA HB hBr hdr x0 x1 x2
  by_cases hlt : j < uses.length
  ·have HCU:=Lib.hid (checkUse_any label uses j uA uc wr hlt hsr)
   have HU:=Lib.hid (show useAll label uses (uses.length - j) j = if useE label uses j = 0 then useAll label uses (uses.length - (j + 1)) (j + 1) else useE label uses j by
    rw [show uses.length - j = (uses.length - (j + 1)) + 1 by omega];rfl)
   obtain ⟨Eu,HEu⟩ : ∃ Eu,Hid (useE label uses j = Eu):=⟨_,rfl⟩
   rw [HEu.out] at HU HCU
   clear hsr
   go_wp2_with fail
   refine HCU.out.mono ?_
   rintro e w3 ⟨rfl,hb3⟩
   have HB3:=Lib.hid (HBr.out.1.trans (hb3.mono HBr.out.1.size))
   clear hb3
   by_cases eu : Eu = 0
   ·subst eu
    go_wp2
    go_roundg (uses.length - (j + 1))
    case measure => rw [HG'.out.1];omega
    case rel => exact ⟨j + 1,rfl,by omega,by go_num,by rw [HG'.out.2.1,HU.out];simp,HB3.out⟩
   ·have eu' : (Eu != 0) = true:=by simpa using eu
    have HR:=Lib.hid (show E = Eu by
     have h : E2 = Eu:=by rw [HG'.out.2.1,HU.out,if_neg eu]
     rw [HD3.out,if_pos (by rw [h];exact eu),h])
    go_wp2
    go_ret
    exact ⟨by rw [HR.out];rfl,(HC.out _ HB3.out).1⟩
  ·obtain rfl : j = uses.length:=by omega
   have HD4:=Lib.hid (HD3.out.trans (if_neg (by rw [HG'.out.2.1,Nat.sub_self];simp [useAll])))
   clear hsr
   by_cases hlong : 100 < decls.length
   ·have HR:=Lib.hid (HD4.out.trans (if_pos hlong))
    go_wp2
    go_ret
    exact ⟨by rw [HR.out];rfl,HBr.out.2.1⟩
   ·have HD5:=Lib.hid (HD4.out.trans (if_neg hlong))
    go_wp2
    go_loopg [6,7,8,43] decls.length (fun g _ _ _ ct wr2 => ∃ j : Nat,g = decls.length - j ∧ j ≤ decls.length ∧ ct = .int .i64 j ∧ E = declsE label (prevI decls j) (decls.drop j) ∧ Below W0.heap.size W0 wr2)
    case atStart => exact ⟨0,rfl,by omega,rfl,HD5.out,HBr.out.1⟩
    case round =>
     obtain ⟨j,HG,hj2,rfl,HA,HB⟩:=hrel
     have HG2:=Lib.hid (And.intro HG HA)
     obtain ⟨hBr2,hzr2,_,hdr2,z0,z1,z2⟩:=HC.out wr HB
     have HBr2:=Lib.hid (And.intro HB hBr2)
     clear HG HA HB hBr2 y0 y1 y2 z1
     by_cases hlt2 : j < decls.length
     ·have hj3 : decls[j]? = some decls[j]:=List.getElem?_eq_getElem hlt2
      obtain ⟨b,o,rfl,hb,hall⟩:=hdr2.2.2 (by intro e;subst e;simp at hlt2)
      obtain ⟨hcs,hok⟩:=hall j _ hj3
      have HDR:=Lib.hid (show decls.drop j = decls[j] :: decls.drop (j + 1) from List.drop_eq_getElem_cons hlt2)
      have HPV:=Lib.hid (show prevI decls (j + 1) = some decls[j].id by simp [prevI,hj3])
      have HALL:=Lib.hid hall
      clear hall hj3 hdr2
      generalize decls[j] = x at hcs hok HDR HPV
      obtain ⟨Ed,HEd⟩ : ∃ Ed,Hid (declE label x = Ed):=⟨_,rfl⟩
      have HX:=Lib.hid (And.intro hok HEd.out)
      obtain ⟨xid,xkind,xpub,xnA,xnc,xnames,xdoubt,xk,xn,xm,xi,xd,xA,xc,xs⟩:=x
      have d0 : wr.cell? ⟨b,o + j * 11,none⟩ = some (.int .i64 xid):=hcs 0 _ rfl
      have d1 : wr.cell? ⟨b,o + j * 11 + 1,none⟩ = some (.int .i64 xkind):=hcs 1 _ rfl
      have d2 : wr.cell? ⟨b,o + j * 11 + 2,none⟩ = some (.bool xpub):=hcs 2 _ rfl
      have d3 : wr.cell? ⟨b,o + j * 11 + 3,none⟩ = some (.slice xnA xnames.length xnc):=hcs 3 _ rfl
      have d4 : wr.cell? ⟨b,o + j * 11 + 4,none⟩ = some (.bool xdoubt):=hcs 4 _ rfl
      have d5 : wr.cell? ⟨b,o + j * 11 + 5,none⟩ = some (.int .i64 xk):=hcs 5 _ rfl
      have d6 : wr.cell? ⟨b,o + j * 11 + 6,none⟩ = some (.string xn):=hcs 6 _ rfl
      have d7 : wr.cell? ⟨b,o + j * 11 + 7,none⟩ = some (.string xm):=hcs 7 _ rfl
      have d8 : wr.cell? ⟨b,o + j * 11 + 8,none⟩ = some (.int .i64 xi):=hcs 8 _ rfl
      have d9 : wr.cell? ⟨b,o + j * 11 + 9,none⟩ = some (.int .i64 xd):=hcs 9 _ rfl
      have d10 : wr.cell? ⟨b,o + j * 11 + 10,none⟩ = some (.slice xA xs.len xc):=hcs 10 _ rfl
      clear hcs hok
      obtain ⟨W3,hW3⟩ : ∃ W3,wr.alloc (.cells #[.int .i64 xid,.int .i64 xkind,.bool xpub,.slice xnA xnames.length xnc,.bool xdoubt,.int .i64 xk,.string xn,.string xm,.int .i64 xi,.int .i64 xd,.slice xA xs.len xc] 62) = W3:=⟨_,rfl⟩
      have hb3 : Below wr.heap.size wr W3:=by subst hW3;exact (Below.refl _ _).alloc (Nat.le_refl _) _
      have hz3 : wr.heap.size < W3.heap.size:=by subst hW3;simp
      have f0 : W3.cell? ⟨wr.heap.size,0,none⟩ = some (.int .i64 xid):=by subst hW3;go_simp
      have f1 : W3.cell? ⟨wr.heap.size,1,none⟩ = some (.int .i64 xkind):=by subst hW3;go_simp
      have f2 : W3.cell? ⟨wr.heap.size,2,none⟩ = some (.bool xpub):=by subst hW3;go_simp
      have f3 : W3.cell? ⟨wr.heap.size,3,none⟩ = some (.slice xnA xnames.length xnc):=by subst hW3;go_simp
      have f4 : W3.cell? ⟨wr.heap.size,4,none⟩ = some (.bool xdoubt):=by subst hW3;go_simp
      have f5 : W3.cell? ⟨wr.heap.size,5,none⟩ = some (.int .i64 xk):=by subst hW3;go_simp
      have f6 : W3.cell? ⟨wr.heap.size,6,none⟩ = some (.string xn):=by subst hW3;go_simp
      have f7 : W3.cell? ⟨wr.heap.size,7,none⟩ = some (.string xm):=by subst hW3;go_simp
      have f8 : W3.cell? ⟨wr.heap.size,8,none⟩ = some (.int .i64 xi):=by subst hW3;go_simp
      have f9 : W3.cell? ⟨wr.heap.size,9,none⟩ = some (.int .i64 xd):=by subst hW3;go_simp
      have f10 : W3.cell? ⟨wr.heap.size,10,none⟩ = some (.slice xA xs.len xc):=by subst hW3;go_simp
      have g0:=(hb3.cell (p:=⟨w.heap.size,0,none⟩) hzr2).trans z0
      have g2:=(hb3.cell (p:=⟨w.heap.size,2,none⟩) hzr2).trans z2
      have hcd:=(bCheckDecl_any label ⟨xid,xkind,xpub,xnA,xnc,xnames,xdoubt,xk,xn,xm,xi,xd,xA,xc,xs⟩ W3 ⟨HX.out.1.1.keep (by omega) (fun p hp => hb3.cell (by omega)),HX.out.1.2.keep (by omega) (fun p hp => hb3.cell (by omega))⟩)
      rw [HEd.out] at hcd
      simp only [Dc.cells] at hcd
      have HCD:=Lib.hid hcd
      clear hcd
      have HB3:=Lib.hid (HBr2.out.1.trans (hb3.mono HBr2.out.1.size))
      have hcl3 : ∀ p : Addr,p.block < wr.heap.size → W3.cell? p = wr.cell? p:=fun p hp => hb3.cell hp
      clear hb3
      go_wp2_with fail
      refine HCD.out.mono ?_
      rintro e w4 ⟨rfl,hb4⟩
      have HB4:=Lib.hid (HB3.out.trans (hb4.mono HB3.out.size))
      have i0:=(hb4.cell (p:=⟨wr.heap.size,0,none⟩) hz3).trans f0
      have i2:=(hb4.cell (p:=⟨w.heap.size,2,none⟩) (by simp;omega)).trans g2
      clear hW3 d0 d1 d2 d3 d4 d5 d6 d7 d8 d9 d10 f0 f1 f2 f3 f4 f5 f6 f7 f8 f9 f10 g0 g2 z0 z2
      by_cases ed : Ed = 0
      rotate_left
      ·have ed' : (Ed != 0) = true:=by simpa using ed
       have HR:=Lib.hid (show E = Ed by
        rw [HG2.out.2,HDR.out]
        cases prevI decls j <;> simp [declsE,HEd.out,ed])
       clear hb4 hcl3
       go_wp2
       go_ret
       exact ⟨by rw [HR.out];rfl,(HC.out _ HB4.out).1⟩
      subst ed
      cases j with
      | zero =>
       have HR:=Lib.hid (show E = declsE label (prevI decls (0 + 1)) (decls.drop (0 + 1)) by
        rw [HG2.out.2,HDR.out,HPV.out]
        simp [prevI,declsE,HEd.out])
       clear hb4 hcl3
       go_wp2_with fail
       go_quiet (fail)
       go_wp2
       go_roundg (decls.length - (0 + 1))
       case measure => rw [HG2.out.1];omega
       case rel => exact ⟨0 + 1,rfl,by omega,by go_num,HR.out,below_drewN HB4.out _⟩
      | succ j =>
       have hk3 : decls[j]? = some decls[j]:=List.getElem?_eq_getElem (by omega)
       have hk0 : wr.cell? ⟨b,o + j * 11,none⟩ = some (.int .i64 decls[j].id):=(HALL.out j _ hk3).1 0 _ rfl
       have HQ:=Lib.hid (show prevI decls (j + 1) = some decls[j].id by simp [prevI,hk3])
       clear hk3
       generalize decls[j].id = pid at hk0 HQ
       have hp1 : (0 : Int) < (j : Int) + 1:=by omega
       have hw1 : IntKind.i64.wrap ((j : Int) + 1 - 1) = j:=by rw [show ((j : Int) + 1 - 1) = j by omega];exact IntWalk.i64_in _ (by omega)
       have hj0 : (0 : Int) ≤ (j : Int):=by omega
       have hj1 : (j : Int) < (decls.length : Int):=by omega
       have hk4:=(hb4.cell (p:=⟨b,o + j * 11,none⟩) (by simp;omega)).trans ((hcl3 ⟨b,o + j * 11,none⟩ (by simp;omega)).trans hk0)
       by_cases hle : xid ≤ pid
       ·have HR:=Lib.hid (show E = 10 by
         rw [HG2.out.2,HDR.out,HQ.out]
         simp [declsE,HEd.out,hle])
        clear hb4 hcl3 hk0
        go_wp2_with fail
        go_quiet (fail)
        go_wp2
        go_ret
        exact ⟨by rw [HR.out];rfl,below_drewN (HC.out _ HB4.out).1 _⟩
       ·have HR:=Lib.hid (show E = declsE label (prevI decls (j + 1 + 1)) (decls.drop (j + 1 + 1)) by
         rw [HG2.out.2,HDR.out,HQ.out,HPV.out]
         simp [declsE,HEd.out,hle])
        have hle' : decide (xid ≤ pid) = false:=by simpa using hle
        clear hb4 hcl3 hk0
        go_wp2_with fail
        go_quiet (fail)
        go_wp2
        go_roundg (decls.length - (j + 1 + 1))
        case measure => rw [HG2.out.1];omega
        case rel => exact ⟨j + 1 + 1,rfl,by omega,by go_num,HR.out,below_drewN HB4.out _⟩
     ·obtain rfl : j = decls.length:=by omega
      have HR:=Lib.hid (show E = 0 by
       rw [HG2.out.2,List.drop_of_length_le (Nat.le_refl _)]
       cases prevI decls decls.length <;> rfl)
      clear hdr2
      go_wp2
      go_ret
      exact ⟨by rw [HR.out];rfl,HBr2.out.2⟩
end Go.Proofs.YtnfndgmlnoeelaaGreatDoor
