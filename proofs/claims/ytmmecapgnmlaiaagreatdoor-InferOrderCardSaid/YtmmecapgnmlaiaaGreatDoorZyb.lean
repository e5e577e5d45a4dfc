/- slices of ints: Index, Contains, Clone, Sort -/
import Derived.Test.YtmmecapgnmlaiaaGreatDoorZxs
import Derived.Test.YtmmecapgnmlaiaaGreatDoorLyq
import Derived.Sort.OwnSortedInts
import Derived.Deep.RegionHeld3
import Derived.Lib.MinMax
namespace Go.Proofs.YtmmecapgnmlaiaaGreatDoor
open Go Go.RowKit Go.Proofs Go.Proofs.Scc Go.Shelf Go.Sort
def idxZ (l : List Int) (x : Int) : Int:=if x ∈ l then (l.idxOf x : Int) else -1
set_option maxRecDepth 100000 in
set_option maxHeartbeats 1000000 in
theorem slcIdxI_any {B : Nat} {A : Option Addr} {c : Nat} {l : List Int} {w : World} (h : IntsA w B A c l) (x : Int) : Calls Tryz.prog 83 #[.slice A l.length c,.int .i64 x] w fun e w' => e = .returned (.int .i64 (idxZ l x)) ∧ w' = w:=by
 obtain ⟨N,HN⟩ : ∃ N,Hid (l.length = N):=⟨_,Lib.hid rfl⟩
 have hcap : N ≤ maxLen:=by rw [← HN.out];exact Nat.le_trans h.1 h.2.1
 obtain ⟨R,HR⟩ : ∃ R,Hid (idxZ l x = R):=⟨_,Lib.hid rfl⟩
 have HH:=Lib.hid h
 rw [HN.out,HR.out]
 unfold maxLen at hcap
 clear h
 go_enter Tryz.func83,Tryz.ntmps83
 go_wp2
 go_loopg [5,8] N (fun g _ ct wr => ∃ j : Nat,g = N - j ∧ j ≤ N ∧ ct = .int .i64 j ∧ wr = w ∧ x ∉ l.take j)
 case atStart => exact ⟨0,rfl,Nat.zero_le _,rfl,rfl,by simp⟩
 case round =>
  obtain ⟨j,hg,hj,rfl,rfl,hx⟩:=hrel
  by_cases hlt : j < N
  ·obtain ⟨a,ha⟩ : ∃ a,l[j]? = some a:=⟨_,List.getElem?_eq_getElem (by rw [HN.out];exact hlt)⟩
   obtain ⟨g,o,rfl,hgB,hgc⟩:=HH.out.2.2 (by intro e;rw [e] at ha;simp at ha)
   have eg:=hgc j a ha
   have htk : l.take (j + 1) = l.take j ++ [a]:=by rw [List.take_add_one,ha];rfl
   by_cases he : x = a
   ·subst he
    have HV:=Lib.hid (show R = (j : Int) by
     rw [← HR.out]
     unfold idxZ
     rw [if_pos (List.mem_of_getElem? ha)]
     congr 1
     obtain ⟨i1,i2⟩:=idx_pre (id:=x) (l:=l.take j) (m:=l) (by rw [← htk];exact List.take_prefix _ _) hx
     rw [i1,List.length_take]
     rw [HN.out]
     omega)
    clear hgc ha hx hg htk
    go_wp2
    go_ret
    exact ⟨by rw [HV.out];rfl,rfl⟩
   ·have he' : (x == a) = false:=by simpa using he
    have HX:=Lib.hid (And.intro hg (show x ∉ l.take (j + 1) by rw [htk,List.mem_append,List.mem_singleton];exact fun h => h.elim hx he))
    clear hgc ha hx hg htk
    go_wp2
    go_roundg (N - (j + 1))
    case measure => have:=HX.out.1;omega
    case rel => exact ⟨j + 1,rfl,by omega,by go_num,rfl,HX.out.2⟩
  ·obtain rfl : j = N:=by omega
   have i1 : decide ((j : Int) < (j : Int)) = false:=decide_eq_false (by omega)
   have i2 : decide (j < j) = false:=decide_eq_false (by omega)
   rw [List.take_of_length_le (by rw [HN.out];exact Nat.le_refl _)] at hx
   have HV:=Lib.hid (show R = -1 by rw [← HR.out];unfold idxZ;rw [if_neg hx])
   clear hx
   go_wp2
   go_ret
   exact ⟨by rw [HV.out];rfl,rfl⟩
set_option maxRecDepth 100000 in
set_option maxHeartbeats 1000000 in
theorem slcHasI_any {B : Nat} {A : Option Addr} {c : Nat} {l : List Int} {w : World} (h : IntsA w B A c l) (x : Int) : Calls Tryz.prog 80 #[.slice A l.length c,.int .i64 x] w fun e w' => e = .returned (.bool (decide (x ∈ l))) ∧ w' = w:=by
 have HC:=Lib.hid (slcIdxI_any h x)
 obtain ⟨R,HR⟩ : ∃ R,Hid (idxZ l x = R):=⟨_,Lib.hid rfl⟩
 have HV:=Lib.hid (show decide (0 ≤ R) = decide (x ∈ l) by
  rw [← HR.out]
  unfold idxZ
  by_cases e : x ∈ l
  ·rw [if_pos e,decide_eq_true e];exact decide_eq_true (by omega)
  ·rw [if_neg e,decide_eq_false e];rfl)
 obtain ⟨N,HN⟩ : ∃ N,Hid (l.length = N):=⟨_,Lib.hid rfl⟩
 rw [HR.out,HN.out] at HC
 rw [HN.out]
 clear h
 go_enter Tryz.func80,Tryz.ntmps80
 go_wp2_with fail
 with_reducible refine Calls.mono HC.out ?_
 rintro e w' ⟨rfl,rfl⟩
 go_wp2
 go_ret
 exact ⟨by rw [← HV.out];rfl,rfl⟩
set_option maxRecDepth 100000 in
set_option maxHeartbeats 1000000 in
theorem slcCloneI_any {g o c : Nat} {l : List Int} {w : World} (hg : g < w.heap.size) (hl : l.length ≤ 1000000) (hc : ∀ (j : Nat) (i : Int),l[j]? = some i → w.cell? ⟨g,o + j,none⟩ = some (.int .i64 i)) :
  Calls Tryz.prog 84 #[.slice (some ⟨g,o,none⟩) l.length c] w fun e w' => ∃ v,e = .returned v ∧ w'.ownsRow w.heap.size 3 1 v l.length (l.map (.int .i64)) ∧ Below w.heap.size w w':=by
 have q22 : ∀ (w : World) (a : Option Addr) (n c n' c' : Nat),(binOp .eql 39 (.slice a n c) (.slice none n' c')).run Tryz.prog w = .ok (.bool a.isNone) w:=fun w a n c n' c' => Lib.run_eql_slice_nil w _ _ a n c n' c' Tryz.undInts
 obtain ⟨i0,hi,hz0,hz1,hz2⟩:=info_parts Tryz.infoInt
 have hnews : ∀ a',some (⟨g,o,none⟩ : Addr) = some a' → ∀ j u,(l.map (Value.int .i64))[j]? = some u → (w.alloc (.cells #[] 3)).cell? (a'.add j) = some u:=by
  intro a' e j u hu
  cases e
  rw [List.getElem?_map] at hu
  cases hj : l[j]? with
  | none => rw [hj] at hu;cases hu
  | some i =>
   rw [hj] at hu
   cases hu
   have h5:=(World.cell?_alloc_lt w (.cells #[] 3) ⟨g,o + j,none⟩ hg).trans (hc j i hj)
   unfold Addr.add
   by_cases h0 : j = 0
   ·rw [if_pos h0]
    subst h0
    exact h5
   ·rw [if_neg h0]
    exact h5
 have HN:=Lib.hid hnews
 have hrow:=World.ownsRow_lit (base:=w.heap.size) (e:=3) (size:=1) w #[] 0 (Nat.le_refl _) (by simp) rfl
 have HW:=Lib.hid hrow
 clear hnews hrow hc
 go_enter Tryz.func84,Tryz.ntmps84
 go_wp2_with (at_builtin;refine wpList_append_own_any _ rfl _ _ 39 rfl w.heap.size 3 i0 _ 1 8 Tryz.undInts hi hz0 hz1 hz2 rfl (by decide) _ 0 [] rfl HW.out (some ⟨g,o,none⟩) l.length c (l.map (.int .i64)) rfl (by simp) (by simp) HN.out (by simp [Value.oneCell']) (by unfold maxLen;omega) (by omega) (by simp) ?_;intro v' w1 hown' hgrow)
 go_ret
 refine ⟨_,rfl,by simpa using hown',?_⟩
 exact ((Below.refl _ _).alloc (Nat.le_refl _) _).trans (Keeps.to_below ((Keeps.refl (fun k => k < w.heap.size) _).grown hgrow (by rintro k hk;cases hk;simp)) (by simp) (by simp))
theorem slcSortI_any {base : Nat} {v : Value} {l : List Int} {w : World} (h : w.ownsRow base 3 1 v l.length (l.map (.int .i64))) (hn : l ≠ []) (hl : l.length ≤ 1000000) :
  Calls Tryz.prog 85 #[v] w fun e w' => e = .returned (.tuple #[]) ∧ w'.ownsRow base 3 1 v l.length ((sortI l).map (.int .i64)) ∧ w.grownBy w' v.ownBlock:=by
 rcases h.2 with ⟨_,e0⟩ | ⟨g,cap,cur,rfl,e2,e3,e4,e5,e6,e7⟩
 ·exact absurd (List.length_eq_zero_iff.1 e0) hn
 have hH:=holds_of_blockI e3 (by simpa using e7)
 refine (Any.slices_Sort_int Tryz.laysSortI g 0 cap l w hH (lt_of_block e3) (by omega)).mono ?_
 rintro e w' ⟨rfl,nn,os,rfl⟩
 exact ⟨rfl,ownsRow_sortedI (by simp) e2 e3 e4 e5 e6,grownBy_sortedI _⟩
end Go.Proofs.YtmmecapgnmlaiaaGreatDoor
/- infer.components' closure -/
namespace Go.Proofs.YtmmecapgnmlaiaaGreatDoor
open Go Go.RowKit Go.Proofs Go.Proofs.Scc
def VisP (n ub : Nat) (used : Int → List Int) (W : World) (τ : Tj) (e : Ending) (Y : World) : Prop:=e = .returned (.tuple #[]) ∧ ∃ ov gv gl,TjI n ub used W Y ov gv gl τ
def VisOK (n ub : Nat) (used : Int → List Int) (W : World) (V : List Int) (f : Nat) : Prop:=∀ (id : Int) (X : World) (ov gv : Value) (gl : List Value) (σ : Tj),TjI n ub used W X ov gv gl σ → Ok V σ → id ∈ V → σ.num id = 0 → V.length ≤ f + σ.cnt →
 Calls Tryz.prog 82 #[.int .i64 id,.pointer (some ⟨n + 5,0,none⟩),.pointer (some ⟨n + 6,0,none⟩),.pointer (some ⟨n + 9,0,none⟩),.pointer (some ⟨n + 1,0,none⟩),.pointer (some ⟨n + 10,0,none⟩),.pointer (some ⟨n + 8,0,none⟩),.pointer (some ⟨n + 2,0,none⟩)] X (VisP n ub used W (visit used f id σ))
theorem edges_snoc (vis : Int → Tj → Tj) (id u : Int) : ∀ (l : List Int) (σ : Tj),edges vis id (l ++ [u]) σ = edge vis id u (edges vis id l σ)
 | [],_ => rfl
 | x :: l,σ => edges_snoc vis id u l (edge vis id x σ)
structure GrOk (used : Int → List Int) (V : List Int) : Prop where
 nd : V.Nodup
 ok : ∀ x ∈ V,intK.ok x
 us : ∀ x ∈ V,∀ u ∈ used x,u ∈ V
 vl : V.length ≤ 1000
 ul : ∀ x ∈ V,(used x).length ≤ 1000000
set_option maxRecDepth 100000 in
set_option maxHeartbeats 8000000 in
theorem visit_step {n ub : Nat} {used : Int → List Int} {W : World} {V : List Int} (hG : GrOk used V) (f : Nat) (ih : VisOK n ub used W V f) : VisOK n ub used W V (f + 1):=by
 intro id X ov gv gl σ h hok hid h0 hf
 have hcl:=hok.lt hid h0
 have hvl:=hG.vl
 obtain ⟨Y1,run1,lk1,y15,y16,Z1,run2,hI1,hN1⟩:=h.enter (hG.ok id hid) h0 (by omega)
 obtain ⟨c5,c6,c8,c1,c10,c9,c2,f9,f2⟩:=h.cells
 have d5 : Y1.cell? ⟨n + 5,0,none⟩ = some (.map (some (n + 3))):=(World.cell?_of_block y15).trans c5
 have d6 : Y1.cell? ⟨n + 6,0,none⟩ = some (.map (some (n + 4))):=(World.cell?_of_block y16).trans c6
 have hlen:=h.m3.len Tryz.undIntM 3
 have eg:=enterFn (fid:=82) rfl rfl rfl
 have hgr:=hok.gr
 obtain ⟨_,_,_,_,_,d9,_,e9,_⟩:=hI1.cells
 obtain ⟨i0,hi,hz0,hz1,hz2⟩:=info_parts Tryz.infoInt
 have hro : (Z1.alloc (.cells #[.int .i64 id] 3)).ownsRow (n + 11) 3 1 ov σ.opn.length (σ.opn.map (.int .i64)):=hI1.ro.alloc _
 have hzB : n + 11 ≤ (Z1.alloc (.cells #[.int .i64 id] 3)).heap.size:=by have:=hI1.f.z;simp;omega
 have hocB : σ.opn.length + 1 ≤ 2000:=by omega
 obtain ⟨k1,k2,k3⟩:=hok.enter hG.nd hid h0
 have HP:=Lib.hid (show ∀ ov' Z,_ → _ → _ → _ from fun ov' Z h1 h2 h3 => hI1.pushed (id:=id) (ov':=ov') (Z:=Z) hN1 h1 h2 h3)
 have HRO:=Lib.hid (And.intro hro (And.intro hzB hocB))
 have HK:=Lib.hid (And.intro k1 (And.intro k2 k3))
 have H0:=Lib.hid (And.intro h (And.intro hok (And.intro hid (And.intro h0 (And.intro hf hcl)))))
 clear hI1 hN1 y15 y16 h hok hf k1 k2 k3 c8 c1 c10 c9 c2 f9 f2 hro hzB hocB
 go_enter Tryz.func82,Tryz.ntmps82
 go_upto_region 3 with (at_builtin;refine wpList_append_own_at _ rfl _ _ 39 rfl (n + 11) 3 i0 _ 1 8 Tryz.undInts hi hz0 hz1 hz2 rfl (by decide) ov σ.opn.length (σ.opn.map (.int .i64)) rfl HRO.out.1 ⟨Z1.heap.size,0,none⟩ 1 1 [.int .i64 id] rfl rfl (new_one Z1 _ _) (by simp [Value.oneCell']) (by have:=HRO.out.2.2;unfold maxLen;omega) (by have:=HRO.out.2.2;omega) HRO.out.2.1 ?_;intro ov1 Z2 hown2 hgrow2 _ hat2;obtain ⟨oA1,oc1,rfl⟩:=row_slice hown2;obtain ⟨q9,q9f,hI2⟩:=HP.out _ _ hown2 hgrow2 hat2;have HE:=Lib.hid hI2;clear hown2 hgrow2 hat2 hI2)
 obtain ⟨Z3,hZ3⟩ : ∃ Z3,Z2.setCell ⟨n + 9,0,none⟩ (.slice oA1 (σ.opn.length + 1) oc1) = Z3:=⟨_,rfl⟩
 try rw [hZ3]
 rw [hZ3] at HE
 obtain ⟨s1,Hs1⟩ : ∃ s1,Hid (enter id σ = s1):=⟨_,Lib.hid rfl⟩
 have hE : TjI n ub used W Z3 (.slice oA1 (σ.opn.length + 1) oc1) gv gl s1:=by rw [← Hs1.out];exact HE.out
 obtain ⟨_,_,_,uA,uc,lku,hia⟩:=hE.looks (hG.ok id hid)
 obtain ⟨_,_,_,z1,_⟩:=hE.cells
 obtain ⟨N,HN⟩ : ∃ N,Hid ((used id).length = N):=⟨_,Lib.hid rfl⟩
 have hNc : N ≤ 1000000:=by rw [← HN.out];exact hG.ul id hid
 rw [HN.out] at lku
 have HE1:=Lib.hid (And.intro hE hia)
 have HSP:=Lib.hid (show ∀ l,(∀ u ∈ l,u ∈ V) → Ok V (edges (visit used f) id l s1) ∧ Le s1 (edges (visit used f) id l s1) from fun l hl => by
  have h1:=HK.out.1
  rw [Hs1.out] at h1
  exact edges_spec (V:=V) (τ:=s1) (id:=id) (p:=fun u => u ∈ V) (fun u τ' hτ hu hu0 hc => by
   obtain ⟨a,b,_⟩:=visit_ok hG.nd hG.us f u τ' hτ hu hu0 (by
    have h2 : s1.cnt = σ.cnt + 1:=by rw [← Hs1.out];rfl
    have:=H0.out.2.2.2.2.1
    omega)
   exact ⟨a,b⟩) l s1 hl h1 (Nat.le_refl _))
 obtain ⟨R,HR⟩ : ∃ R,Hid (visit used (f + 1) id σ = R):=⟨_,Lib.hid rfl⟩
 rw [HR.out]
 clear hE hia hZ3 q9 q9f run1 lk1 run2 hlen d5 d6 c5 c6 d9 e9
 go_wp2
 go_loopg [10,33] N (fun g _ ct wr => ∃ (j : Nat) (ov gv : Value) (gl : List Value),g = N - j ∧ j ≤ N ∧ ct = .int .i64 j ∧ TjI n ub used W wr ov gv gl (edges (visit used f) id ((used id).take j) s1))
 case atStart => exact ⟨0,_,_,_,rfl,Nat.zero_le _,rfl,HE1.out.1⟩
 case round =>
  obtain ⟨j,ov,gv,gl,hg,hj,rfl,hI⟩:=hrel
  obtain ⟨τ,Hτ⟩ : ∃ τ,Hid (edges (visit used f) id ((used id).take j) s1 = τ):=⟨_,Lib.hid rfl⟩
  have hsp:=HSP.out ((used id).take j) fun u hu => hG.us id hid u (List.mem_of_mem_take hu)
  rw [Hτ.out] at hI hsp
  have hni : τ.num id ≠ 0:=by
   have:=HK.out.2.2
   rw [Hs1.out] at this
   rw [hsp.2.num id this]
   exact this
  obtain ⟨c5,c6,c8,c1,c10,c9,c2,f9,f2⟩:=hI.cells
  by_cases hlt : j < N
  ·obtain ⟨u,hu⟩ : ∃ u,(used id)[j]? = some u:=⟨_,List.getElem?_eq_getElem (by rw [HN.out];exact hlt)⟩
   obtain ⟨g,o,rfl,hgB,hgc⟩:=HE1.out.2.2.2 (by intro e;rw [e] at hu;simp at hu)
   have eu : wr.cell? ⟨g,o + j,none⟩ = some (.int .i64 u):=(World.cell?_of_block ((hI.f.old g hgB).trans (HE1.out.1.f.old g hgB).symm)).trans (hgc j u hu)
   have huV : u ∈ V:=hG.us id hid u (List.mem_of_getElem? hu)
   obtain ⟨l3,l4,l7,_⟩:=hI.looks (hG.ok u huV)
   obtain ⟨m3,m4,_,_⟩:=hI.looks (hG.ok id hid)
   have m4:=m4 hni
   have hst : edges (visit used f) id ((used id).take (j + 1)) s1 = edge (visit used f) id u τ:=by
    rw [List.take_add_one,hu]
    show edges _ id (_ ++ [u]) s1 = _
    rw [edges_snoc,Hτ.out]
   have HJ:=Lib.hid (And.intro hI (And.intro hsp (And.intro hni (And.intro hg (And.intro huV hst)))))
   by_cases hn0 : τ.num u = 0
   ·have hn0' : (τ.num u == 0) = true:=by simpa using hn0
    have hfu : V.length ≤ f + τ.cnt:=by
     have h2 : s1.cnt = σ.cnt + 1:=by rw [← Hs1.out];rfl
     have:=H0.out.2.2.2.2.1
     have:=hsp.2.cnt
     omega
    have HC:=Lib.hid (ih u wr ov gv gl τ hI hsp.1 huV hn0 hfu)
    obtain ⟨τ',Hτ'⟩ : ∃ τ',Hid (visit used f u τ = τ'):=⟨_,Lib.hid rfl⟩
    have hvo:=visit_ok hG.nd hG.us f u τ hsp.1 huV hn0 hfu
    rw [Hτ'.out] at HC hvo
    have HV:=Lib.hid (show edge (visit used f) id u τ = lowT id (τ'.low u) τ' by unfold edge;rw [if_pos hn0,Hτ'.out])
    have HVO:=Lib.hid hvo
    clear hI hsp hni hgc hu huV hst hg hfu hvo
    rw [hn0] at l3
    unfold caps cP at c10
    go_wp2_with fail
    with_reducible refine Calls.mono HC.out ?_
    rintro e Y ⟨rfl,ov2,gv2,gl2,hI2⟩
    have hni2 : τ'.num id ≠ 0:=by rw [HVO.out.2.1.num id HJ.out.2.2.1];exact HJ.out.2.2.1
    have hcc : τ'.cnt < 100000:=by have:=HVO.out.1.ct;have:=List.countP_le_length (p:=fun x => decide (τ'.num x ≠ 0)) (l:=V);omega
    obtain ⟨_,r4,_,_⟩:=hI2.looks (hG.ok id hid)
    have r4:=r4 hni2
    obtain ⟨_,t4,_,_⟩:=hI2.looks (hG.ok u HJ.out.2.2.2.2.1)
    have t4:=t4 HVO.out.2.2
    obtain ⟨_,v6,_⟩:=hI2.cells
    obtain ⟨Y2,run5,hI5⟩:=hI2.lowS (hG.ok id hid) hni2 hcc (τ'.low u)
    have HI5:=Lib.hid hI5
    clear hI2 hI5 hni2
    go_wp2
    go_roundg (N - (j + 1))
    case measure => have:=HJ.out.2.2.2.1;omega
    case rel => exact ⟨j + 1,_,_,_,rfl,by omega,by go_num,by rw [HJ.out.2.2.2.2.2,HV.out];exact HI5.out⟩
   ·have hn0' : (τ.num u == 0) = false:=by simpa using hn0
    have hcc : τ.cnt < 100000:=by have:=hsp.1.ct;have:=List.countP_le_length (p:=fun x => decide (τ.num x ≠ 0)) (l:=V);omega
    cases hd : τ.dn u with
    | true =>
     rw [hd] at l7
     have HV:=Lib.hid (show edge (visit used f) id u τ = τ by unfold edge;rw [if_neg hn0,if_neg (by rw [hd];simp)])
     clear hI hsp hni hgc hu huV hst hg hd
     go_wp2
     go_roundg (N - (j + 1))
     case measure => have:=HJ.out.2.2.2.1;omega
     case rel => exact ⟨j + 1,_,_,_,rfl,by omega,by go_num,by rw [HJ.out.2.2.2.2.2,HV.out];exact HJ.out.1⟩
    | false =>
     rw [hd] at l7
     have HV:=Lib.hid (show edge (visit used f) id u τ = lowT id (τ.num u) τ by unfold edge;rw [if_neg hn0,if_pos hd])
     obtain ⟨Y,run4,hI4⟩:=hI.lowS (hG.ok id hid) hni hcc (τ.num u)
     have HI4:=Lib.hid hI4
     clear hI hsp hni hgc hu huV hst hg hd hI4
     go_wp2
     go_roundg (N - (j + 1))
     case measure => have:=HJ.out.2.2.2.1;omega
     case rel => exact ⟨j + 1,_,_,_,rfl,by omega,by go_num,by rw [HJ.out.2.2.2.2.2,HV.out];exact HI4.out⟩
  ·obtain rfl : j = N:=by omega
   have i1 : decide ((j : Int) < (j : Int)) = false:=decide_eq_false (by omega)
   have i2 : decide (j < j) = false:=decide_eq_false (by omega)
   have hfull : (used id).take j = used id:=List.take_of_length_le (by rw [HN.out];exact Nat.le_refl _)
   have hR : R = close id τ:=by
    rw [← HR.out,← Hτ.out,hfull,← Hs1.out];rfl
   obtain ⟨m3,m4,_,_⟩:=hI.looks (hG.ok id hid)
   have m4:=m4 hni
   by_cases hlw : τ.low id < τ.num id
   ·have HV:=Lib.hid (show R = τ by rw [hR];unfold close;rw [if_pos hlw])
    have HI:=Lib.hid hI
    have j1 : decide (τ.low id < τ.num id) = true:=decide_eq_true hlw
    clear hI hsp hni hfull hR
    go_wp2
    go_end0
    rw [HR.out,HV.out]
    exact ⟨rfl,_,_,_,HI.out⟩
   ·have j1 : decide (τ.low id < τ.num id) = false:=decide_eq_false hlw
    have HV:=Lib.hid (show R = popT id τ by rw [hR];unfold close;rw [if_neg hlw])
    have hmem : id ∈ τ.opn:=hsp.2.pre.subset (by rw [← Hs1.out];simp [enter])
    obtain ⟨a,Ha⟩ : ∃ a,Hid (τ.opn.idxOf id = a):=⟨_,Lib.hid rfl⟩
    have hal : a < τ.opn.length:=by rw [← Ha.out];exact List.idxOf_lt_length_of_mem hmem
    obtain ⟨g,oc,rfl,hLc,hcm,hcl,hgX,Nd,hNd,hmd,hIc⟩:=hI.cut hal
    have hic:=slcIdxI_any (B:=wr.heap.size) (w:=wr) (A:=some ⟨g,0,none⟩) (c:=oc) (l:=τ.opn) ⟨hLc,hcm,fun _ => ⟨g,0,rfl,hgX,fun q i hq => by rw [Nat.zero_add];exact hcl q i hq⟩⟩ id
    have hiz : idxZ τ.opn id = (a : Int):=by unfold idxZ;rw [if_pos hmem,Ha.out]
    rw [hiz] at hic
    have hdl : (τ.opn.drop a).length = τ.opn.length - a:=List.length_drop
    have hcn:=slcCloneI_any (g:=g) (o:=a) (c:=oc - a) (l:=τ.opn.drop a) (w:=wr) hgX (by have:=hsp.1.gr;have:=hsp.1.ct;have:=List.countP_le_length (p:=fun x => decide (τ.num x ≠ 0)) (l:=V);omega) (fun q i hq => by rw [List.getElem?_drop] at hq;exact hcl _ i hq)
    rw [hdl] at hcn
    obtain ⟨L,HL⟩ : ∃ L,Hid (τ.opn.length = L):=⟨_,Lib.hid rfl⟩
    rw [HL.out] at hcn hic c9 hLc hal
    have hLb : L ≤ 1000:=by rw [← HL.out];have:=hsp.1.gr;have:=hsp.1.ct;have:=List.countP_le_length (p:=fun x => decide (τ.num x ≠ 0)) (l:=V);omega
    have HX:=Lib.hid (And.intro hic hcn)
    have HC:=Lib.hid (And.intro hNd (And.intro hmd hIc))
    have HS:=Lib.hid (And.intro hI (And.intro hsp (And.intro hni hmem)))
    clear hI hsp hni hfull hR hmem hcl hic hiz hdl hcn hNd hmd hIc
    unfold maxLen at hcm
    go_upto_region 13 with fail
    go_upto_region 14 with (go_at_call 83;(with_reducible refine Calls.mono HX.out.1 ?_);rintro e w1 ⟨rfl,rfl⟩)
    go_upto_region 15 with (go_at_call 84;(with_reducible refine Calls.mono HX.out.2 ?_);rintro e w2 ⟨v2,rfl,hrow2,hb2⟩)
    obtain ⟨K,HKK⟩ : ∃ K,Hid (L - a = K):=⟨_,Lib.hid rfl⟩
    have hK0 : 0 < K:=by rw [← HKK.out];omega
    have hKb : K ≤ 1000:=by rw [← HKK.out];omega
    obtain ⟨Bs,HBs⟩ : ∃ Bs,Hid (w1.heap.size = Bs):=⟨_,Lib.hid rfl⟩
    rw [HKK.out,HBs.out] at hrow2
    have hrow2':=hrow2
    rcases hrow2.2 with ⟨_,e0⟩ | ⟨gc,vc,cur,rfl,e2,e3,e4,e5,e6,e7⟩
    ·omega
    have hI2:=HS.out.1.below hb2
    obtain ⟨g',oc',e,hLc',hcm',hcl',hgX',Nd,hNd,hmd,hIc⟩:=hI2.cut (at_:=a) (by rw [HL.out];exact hal)
    cases e
    obtain ⟨_,_,_,_,_,q9,_,q9f,_⟩:=hI2.cells
    rw [HL.out] at q9
    obtain ⟨W3,hW3⟩ : ∃ W3,w2.setCell ⟨n + 9,0,none⟩ (.slice (some ⟨g,0,none⟩) a oc) = W3:=⟨_,rfl⟩
    rw [hW3] at hIc hmd
    have hgc9 : gc ≠ n + 9:=by have:=HS.out.1.f.z;have:=HBs.out;omega
    have h3gc : W3.heap[gc]? = w2.heap[gc]?:=by rw [← hW3];exact Below.heap_setCell _ _ _ _ hgc9
    have hccl : ∀ (q : Nat) (i : Int),(τ.opn.drop a)[q]? = some i → w2.cell? ⟨gc,q,none⟩ = some (.int .i64 i):=fun q i hq => by
     have hql:=(List.getElem?_eq_some_iff.1 hq).1
     have:=hrow2'.cellAt q (by rw [List.length_drop,HL.out,HKK.out] at hql;omega)
     rw [List.getElem?_map,hq] at this
     exact this
    have HR2:=Lib.hid (And.intro hIc (And.intro hNd (And.intro hmd (And.intro h3gc (And.intro hccl (And.intro hrow2' (And.intro hI2 hb2)))))))
    clear hIc hNd hmd h3gc hccl hrow2' hI2 hb2 hcl' hcm' hLc' hrow2 e6 e7
    have k1 : decide (a ≤ oc) = true:=decide_eq_true (by omega)
    go_upto_region 16 with fail
    try rw [hW3]
    go_wp2
    go_loopg [14,86] K (fun g' _ ct w => ∃ j : Nat,g' = K - j ∧ j ≤ K ∧ ct = .int .i64 j ∧ TjI n ub used W w (.slice (some ⟨g,0,none⟩) a oc) gv gl { τ with opn:=τ.opn.take a,dn:=fun x => τ.dn x || ((τ.opn.drop a).take j).contains x } ∧ (∃ N,N + (K - j) + a ≤ τ.cnt ∧ MapA intK w (n + 7) N (fun x => if (τ.dn x || ((τ.opn.drop a).take j).contains x) = true then some (.bool true) else none)) ∧ w.heap[gc]? = w2.heap[gc]? ∧ w2.heap.size ≤ w.heap.size)
    case atStart =>
     have e : (fun x => τ.dn x || ((τ.opn.drop a).take 0).contains x) = τ.dn:=by funext x;simp
     refine ⟨0,rfl,Nat.zero_le _,rfl,by rw [e];exact HR2.out.1,⟨Nd,?_,?_⟩,HR2.out.2.2.2.1,by rw [← hW3];simp [World.setCell]⟩
     ·have:=HR2.out.2.1
      rw [HL.out] at this
      have:=HKK.out
      omega
     ·have:=HR2.out.2.2.1
      refine this.cong fun x _ => ?_
      have this : (τ.dn x || ((τ.opn.drop a).take 0).contains x) = τ.dn x:=congrFun e x
      simp only [this]
    case round =>
     obtain ⟨j,hg,hj,rfl,hI,⟨Nj,hNj,hmj⟩,hgc,hwz⟩:=hrel
     have hcc : τ.cnt < 100000:=by have:=HS.out.2.1.1.ct;have:=List.countP_le_length (p:=fun x => decide (τ.num x ≠ 0)) (l:=V);omega
     have hdl : (τ.opn.drop a).length = K:=by rw [List.length_drop,HL.out,HKK.out]
     have htl : (τ.opn.take a).length = a:=by rw [List.length_take,HL.out];omega
     by_cases hlt : j < K
     ·obtain ⟨u,hu⟩ : ∃ u,(τ.opn.drop a)[j]? = some u:=⟨_,List.getElem?_eq_getElem (by rw [hdl];exact hlt)⟩
      have eu : wr.cell? ⟨gc,j,none⟩ = some (.int .i64 u):=(World.cell?_of_block hgc).trans (HR2.out.2.2.2.2.1 j u hu)
      have huV : u ∈ V:=HS.out.2.1.1.nV u (HS.out.2.1.1.op u (List.mem_of_mem_drop (List.mem_of_getElem? hu)))
      obtain ⟨Y,run6,hI6,hg6,hm6⟩:=hI.doneS (hG.ok u huV) (N:=Nj) (by show Nj + 1 + (τ.opn.take a).length ≤ τ.cnt;rw [htl];omega) hcc hmj
      obtain ⟨_,_,c8,_⟩:=hI.cells
      have e : (fun x => (τ.dn x || ((τ.opn.drop a).take j).contains x) || decide (x = u)) = fun x => τ.dn x || ((τ.opn.drop a).take (j + 1)).contains x:=by
       funext x
       rw [List.take_add_one,hu]
       by_cases ex : x = u
       ·subst ex;simp
       ·simp [ex]
      have HJ:=Lib.hid (And.intro hg (And.intro (show TjI n ub used W Y (.slice (some ⟨g,0,none⟩) a oc) gv gl { τ with opn:=τ.opn.take a,dn:=fun x => τ.dn x || ((τ.opn.drop a).take (j + 1)).contains x } by rw [← e];exact hI6) (And.intro (show MapA intK Y (n + 7) (Nj + 1) (fun x => if (τ.dn x || ((τ.opn.drop a).take (j + 1)).contains x) = true then some (.bool true) else none) from hm6.cong fun x _ => by have this : ((τ.dn x || ((τ.opn.drop a).take j).contains x) || decide (x = u)) = (τ.dn x || ((τ.opn.drop a).take (j + 1)).contains x):=congrFun e x;simp only [← this]) (And.intro ((hg6.block gc (by have:=HR2.out.2.2.2.2.2.1.lt gc rfl;omega) (by intro h;have:=Option.some.inj h;have:=HS.out.1.f.z;have:=HBs.out;omega)).trans hgc) (Nat.le_trans hwz hg6.size)))))
      clear hI hmj hgc hwz hu huV hI6 hg6 hm6 e hg
      go_wp2
      go_roundg (K - (j + 1))
      case measure => have:=HJ.out.1;omega
      case rel => exact ⟨j + 1,rfl,by omega,by go_num,HJ.out.2.1,⟨Nj + 1,by omega,HJ.out.2.2.1⟩,HJ.out.2.2.2.1,HJ.out.2.2.2.2⟩
     ·obtain rfl : j = K:=by omega
      have i1 : decide ((j : Int) < (j : Int)) = false:=decide_eq_false (by omega)
      have i2 : decide (j < j) = false:=decide_eq_false (by omega)
      have htk : (τ.opn.drop a).take j = τ.opn.drop a:=List.take_of_length_le (by rw [hdl];exact Nat.le_refl _)
      rw [htk] at hI
      obtain ⟨gl0,Hgl0⟩ : ∃ gl0,Hid (τ.opn.drop a = gl0):=⟨_,Lib.hid rfl⟩
      rw [Hgl0.out] at hI hdl
      have hrw : wr.ownsRow Bs 3 1 (.slice (some ⟨gc,0,none⟩) gl0.length vc) gl0.length (gl0.map (.int .i64)):=by
       have:=row_keep HR2.out.2.2.2.2.2.1 (w':=wr) (fun q hq => by cases hq;exact hgc)
       rw [Hgl0.out] at this
       rw [hdl]
       exact this
      have hne : gl0 ≠ []:=by intro e;rw [e] at hdl;simp at hdl;omega
      have hsort:=slcSortI_any hrw hne (by omega)
      rw [hdl] at hsort
      have HSo:=Lib.hid hsort
      have hvz : gc < wr.heap.size:=(hrw.lt gc rfl).2
      have HI:=Lib.hid (And.intro hI hdl)
      clear hI hmj hgc hrw hsort hne htk hg hNj
      go_upto_region 22 with (go_at_call 85;(with_reducible refine Calls.mono HSo.out ?_);rintro e w5 ⟨rfl,hrow5,hg5⟩)
      have hsl : (sortI gl0).length = j:=by rw [← HI.out.2];simp [sortI]
      have hI5:=HI.out.1.other (gc:=gc) (Y:=w5) (by have:=HS.out.1.f.z;have:=HBs.out;omega) (by intro h;have h2 : g = gc:=Option.some.inj h;have:=HBs.out;omega) (fun h => by have:=(HS.out.1.gvB h).2.1;have:=HBs.out;omega) (fun v hv h => by have:=HS.out.1.glB v hv gc h;have:=HBs.out;omega) hg5
      have hGr : GrAt w5 n (.slice (some ⟨g,0,none⟩) a oc) (.slice (some ⟨gc,0,none⟩) j vc) (sortI gl0):=by
       obtain ⟨c5',fz5,hk5⟩:=Lib.ownsRow_kind hrow5 gc rfl
       refine ⟨gc,vc,c5',fz5,by rw [hsl],by have:=HS.out.1.f.z;have:=HBs.out;omega,by intro h;have h2 : g = gc:=Option.some.inj h;have:=HBs.out;omega,hk5,fun q i hq => ?_,fun e => by rw [e] at hsl;simp at hsl;omega,by omega,e5⟩
       have:=hrow5.cellAt q (by have:=(List.getElem?_eq_some_iff.1 hq).1;omega)
       rw [List.getElem?_map,hq] at this
       exact this
      obtain ⟨i1',hi',hz0',hz1',hz2'⟩:=info_parts Tryz.infoInts
      have hgll : gl.length ≤ 1000:=by
       have h1:=HS.out.1.gn
       have h2:=HS.out.2.1.1.gr
       have h3:=HS.out.2.1.1.ct
       have h4:=List.countP_le_length (p:=fun x => decide (τ.num x ≠ 0)) (l:=V)
       omega
      obtain ⟨_,_,_,_,_,_,p2,_,p2f⟩:=hI5.cells
      have hrg : (w5.alloc (.cells #[.slice (some ⟨gc,0,none⟩) j vc] 39)).ownsRow (n + 11) 39 1 gv gl.length gl:=hI5.rg.alloc _
      have HG5:=Lib.hid (And.intro hrg (And.intro hI5 (And.intro hGr (show n + 11 ≤ (w5.alloc (.cells #[.slice (some ⟨gc,0,none⟩) j vc] 39)).heap.size by have:=hI5.f.z;simp;omega))))
      clear hI5 hGr hrg hrow5 hg5
      go_wp2_with (at_builtin;refine wpList_append_own_at _ rfl _ _ 28 rfl (n + 11) 39 i1' _ 1 24 Tryz.undIntss hi' hz0' hz1' hz2' rfl (by decide) gv gl.length gl rfl HG5.out.1 ⟨w5.heap.size,0,none⟩ 1 1 [.slice (some ⟨gc,0,none⟩) j vc] rfl rfl (new_one w5 _ _) (by simp [Value.oneCell']) (by unfold maxLen;omega) (by omega) HG5.out.2.2.2 ?_;intro gv6 Z6 hown6 hgrow6 _ hat6;obtain ⟨gA6,gc6,rfl⟩:=row_slice hown6;obtain ⟨r2,r2f,hI6⟩:=HG5.out.2.1.grouped HG5.out.2.2.1 hown6 hgrow6 hat6;have HI6:=Lib.hid hI6;clear hown6 hgrow6 hat6 hI6)
      go_end0
      rw [HR.out,HV.out]
      have hpop : popT id τ = { τ with opn:=τ.opn.take a,dn:=fun x => τ.dn x || gl0.contains x,grs:=τ.grs ++ [sortI gl0] }:=by
       unfold popT
       rw [Ha.out,Hgl0.out]
      rw [hpop]
      exact ⟨rfl,_,_,_,HI6.out⟩
theorem vis0 {n ub : Nat} {used : Int → List Int} {W : World} {V : List Int} : VisOK n ub used W V 0:=fun id _ _ _ _ _ _ hok hid h0 hf => by
 have:=hok.lt hid h0
 omega
theorem visit_any {n ub : Nat} {used : Int → List Int} {W : World} {V : List Int} (hG : GrOk used V) : ∀ f,VisOK n ub used W V f
 | 0 => vis0
 | f + 1 => visit_step hG f (visit_any hG f)
end Go.Proofs.YtmmecapgnmlaiaaGreatDoor
