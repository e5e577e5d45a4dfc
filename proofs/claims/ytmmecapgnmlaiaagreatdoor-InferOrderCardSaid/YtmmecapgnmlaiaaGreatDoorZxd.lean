/- syntax.addFree: a variable; a node that binds nothing -/
import Derived.Test.YtmmecapgnmlaiaaGreatDoorZxc
import Derived.Test.YtmmecapgnmlaiaaGreatDoorZxh
import Derived.Test.YtmmecapgnmlaiaaGreatDoorLay
import Derived.Maps.OwnSet
import Derived.Maps.RangeWalk
import Derived.Sort.OwnSorted
import Derived.Sort.KeysCollected
namespace Go.Proofs.YtmmecapgnmlaiaaGreatDoor
open Go.RowKit Go.Proofs Go.Shelf
set_option maxRecDepth 100000 in
set_option maxHeartbeats 1000000 in
theorem af_var (s : Fo) (n m : ByteArray) (i d : Int) (A : Option Addr) (c : Nat) (bd : List ByteArray) (B : Option Addr) (cB b q : Nat) (fb : Bool) (w : World)
  (hn : n.size ≤ maxLen) (hB : SlS w w.heap.size B cB bd) (hF : FMap w b q fb) (hq : q + 1 + s.count ≤ 1000000) :
  Calls Tryz.prog 175 #[.agg #[.int .i64 3,.string n,.string m,.int .i64 i,.int .i64 d,.slice A s.len c],.slice B bd.length cB,.map (some b)] w fun e w' =>
   (∃ v,e = .returned v) ∧ FMap w' b (q + 1 + s.count) (fb || nodeFree 3 n m s bd) ∧ Keeps (fun k => k ≠ b) w w':=by
 have hnf : nodeFree 3 n m s bd = !hasS bd n:=rfl
 rw [hnf]
 clear hnf
 have hlt:=hF.lt
 obtain ⟨W0,hW0⟩ : ∃ W0,w.alloc (.cells #[.int .i64 3,.string n,.string m,.int .i64 i,.int .i64 d,.slice A s.len c] 44) = W0:=⟨_,rfl⟩
 have hz0 : W0.heap.size = w.heap.size + 1:=by subst hW0;simp
 have hx0 : W0.cell? ⟨w.heap.size,0,none⟩ = some (.int .i64 3):=by subst hW0;go_simp
 have hx1 : W0.cell? ⟨w.heap.size,1,none⟩ = some (.string n):=by subst hW0;go_simp
 have hk0 : Keeps (fun _ => True) w W0:=by subst hW0;exact (Keeps.refl _ w).alloc _
 have hS0:=Lib.hid (hB.keep (w':=W0) (B':=W0.heap.size) (by omega) fun p hp => World.cell?_of_block (hk0.block p.block hp trivial))
 have HF0:=Lib.hid (hF.keep (hk0.block b hlt trivial))
 have HK0:=Lib.hid (hk0.mono (T:=fun k => k ≠ b) fun _ _ => trivial)
 clear hk0 hF hB
 cases hh : hasS bd n
 ·obtain ⟨nn,D,hown,hnn,hIs,hsz⟩:=HF0.out
  have HO:=Lib.hid (And.intro hown hIs)
  clear hown hsz hIs
  go_enter Tryz.func175,Tryz.ntmps175
  go_wp2_with (first | (go_at_call 152;refine (slcContains_any bd n B cB _ hS0.out).mono ?_;rintro e w' ⟨rfl,rfl⟩;rw [hh]) | (at_mapUpdate;go_loud (refine wpList_mapUpdate_own _ rfl _ _ _ 140 rfl 9 4 strKeyed Tryz.underlying140 _ b nn _ rfl HO.out.1 (by unfold maxLen;omega) _ _ _ rfl rfl (WideMaps.keyOf_string_mk Tryz.underlying9 hn) _ [] (plainElem_bool Tryz.underlying4 _) ?_;intro w1 hown1 hgrow1)))
  refine bodyPost_ret (results_none rfl _ _ _) rfl ?_
  refine ⟨⟨_,rfl⟩,⟨nn + 1,_,hown1,by omega,?_,?_⟩,HK0.out.grown hgrow1 (by rintro k hk;cases hk;simp)⟩
  ·obtain ⟨es,rfl⟩:=HO.out.2;exact ⟨_,rfl⟩
  ·obtain ⟨es,rfl⟩:=HO.out.2
   exact ⟨fun h => absurd h (insert_len _ _),fun h => by simp at h⟩
 ·go_enter Tryz.func175,Tryz.ntmps175
  go_wp2_with (first | (go_at_call 152;refine (slcContains_any bd n B cB _ hS0.out).mono ?_;rintro e w' ⟨rfl,rfl⟩;rw [hh]))
  refine bodyPost_ret (results_none rfl _ _ _) rfl ?_
  refine ⟨⟨_,rfl⟩,?_,HK0.out⟩
  simpa using HF0.out.mono (by omega)
end Go.Proofs.YtmmecapgnmlaiaaGreatDoor
/- syntax.addFree: a case -/
namespace Go.Proofs.YtmmecapgnmlaiaaGreatDoor
open Go.RowKit Go.Proofs Go.Shelf
set_option maxRecDepth 100000 in
set_option maxHeartbeats 1000000 in
theorem af_case (xk : Int) (xn xm : ByteArray) (xi xd : Int) (xA : Option Addr) (xc : Nat) (xs : Fo) (ihx : AfOK xs) (yk : Int) (yn ym : ByteArray) (yi yd : Int) (yA : Option Addr) (yc : Nat) (ys : Fo) (ihy : AfOK ys) (zk : Int) (zn zm : ByteArray) (zi zd : Int) (zA : Option Addr) (zc : Nat) (zs : Fo) (ihz : AfOK zs) (n m : ByteArray) (i d : Int) (A : Option Addr) (c : Nat) (bd : List ByteArray) (B : Option Addr) (cB b q : Nat) (fb : Bool) (w : World)
    (hs : (Fo.cons xk xn xm xi xd xA xc xs (.cons yk yn ym yi yd yA yc ys (.cons zk zn zm zi zd zA zc zs .nil))).Sl w w.heap.size A c) (hv : (Fo.cons xk xn xm xi xd xA xc xs (.cons yk yn ym yi yd yA yc ys (.cons zk zn zm zi zd zA zc zs .nil))).Vld) (hB : SlS w w.heap.size B cB bd) (hBn : B = none → cB = 0) (hF : FMap w b q fb) (hq : q + 1 + (Fo.cons xk xn xm xi xd xA xc xs (.cons yk yn ym yi yd yA yc ys (.cons zk zn zm zi zd zA zc zs .nil))).count ≤ 1000000) (hbd : bd.length + 2 * (1 + (Fo.cons xk xn xm xi xd xA xc xs (.cons yk yn ym yi yd yA yc ys (.cons zk zn zm zi zd zA zc zs .nil))).count) ≤ 1000000) :
    Calls Tryz.prog 175 #[.agg #[.int .i64 13,.string n,.string m,.int .i64 i,.int .i64 d,.slice A 3 c],.slice B bd.length cB,.map (some b)] w fun e w' =>
      (∃ v,e = .returned v) ∧ FMap w' b (q + 1 + (Fo.cons xk xn xm xi xd xA xc xs (.cons yk yn ym yi yd yA yc ys (.cons zk zn zm zi zd zA zc zs .nil))).count) (fb || nodeFree 13 n m (Fo.cons xk xn xm xi xd xA xc xs (.cons yk yn ym yi yd yA yc ys (.cons zk zn zm zi zd zA zc zs .nil))) bd) ∧ Keeps (fun k => k ≠ b) w w':=by
  obtain ⟨i0,hi,hz0,hz1,hz2⟩:=info_parts Tryz.infoString
  obtain ⟨E,HE⟩ : ∃ E,Hid (E = (fb || nodeFree 13 n m (Fo.cons xk xn xm xi xd xA xc xs (.cons yk yn ym yi yd yA yc ys (.cons zk zn zm zi zd zA zc zs .nil))) bd)):=⟨_,rfl⟩
  rw [← HE.out]
  have HE1:=Lib.hid (HE.out.trans (show (fb || nodeFree 13 n m (Fo.cons xk xn xm xi xd xA xc xs (.cons yk yn ym yi yd yA yc ys (.cons zk zn zm zi zd zA zc zs .nil))) bd) = (((fb || nodeFree xk xn xm xs bd) || nodeFree yk yn ym ys bd) || nodeFree zk zn zm zs (bd ++ [n,m])) by
    rw [nodeFree,if_neg (by decide)];simp only [Fo.free_cons];simp [Fo.free,boundBy,Bool.or_assoc]))
  clear HE
  have hcnt : (Fo.cons xk xn xm xi xd xA xc xs (.cons yk yn ym yi yd yA yc ys (.cons zk zn zm zi zd zA zc zs .nil))).count = (xs.count + 1) + (ys.count + 1) + (zs.count + 1):=by simp only [Fo.count] <;> omega
  rw [hcnt] at hq hbd ⊢
  clear hcnt
  have hlt:=hF.lt
  obtain ⟨W0,hW0⟩ : ∃ W0,w.alloc (.cells #[.int .i64 13,.string n,.string m,.int .i64 i,.int .i64 d,.slice A 3 c] 44) = W0:=⟨_,rfl⟩
  have hzw : w.heap.size < W0.heap.size:=by subst hW0;simp
  have hx0 : W0.cell? ⟨w.heap.size,0,none⟩ = some (.int .i64 13):=by subst hW0;go_simp
  have hx1 : W0.cell? ⟨w.heap.size,1,none⟩ = some (.string n):=by subst hW0;go_simp
  have hx2 : W0.cell? ⟨w.heap.size,2,none⟩ = some (.string m):=by subst hW0;go_simp
  have hx5 : W0.cell? ⟨w.heap.size,5,none⟩ = some (.slice A 3 c):=by subst hW0;go_simp
  have hk0 : Keeps (fun _ => True) w W0:=by subst hW0;exact (Keeps.refl _ w).alloc _
  have hcell0 : ∀ p : Addr,p.block < w.heap.size → W0.cell? p = w.cell? p:=fun p hp => World.cell?_of_block (hk0.block p.block hp trivial)
  have hS0:=Lib.hid (hB.keep (w':=W0) (B':=w.heap.size) (Nat.le_refl _) hcell0)
  have hs0:=hs.keep (w':=W0) (B':=w.heap.size) (Nat.le_refl _) hcell0
  obtain ⟨b',o',rfl,hb',xh0,xh1,xh2,xh3,xh4,⟨xh5,xhc,xhm,xhs⟩,yh0,yh1,yh2,yh3,yh4,⟨yh5,yhc,yhm,yhs⟩,zh0,zh1,zh2,zh3,zh4,⟨zh5,zhc,zhm,zhs⟩,_⟩:=hs0.2.2 (by simp)
  have xsl:=Lib.hid (show xs.Sl W0 w.heap.size xA xc from ⟨xhc,xhm,xhs⟩)
  have ysl:=Lib.hid (show ys.Sl W0 w.heap.size yA yc from ⟨yhc,yhm,yhs⟩)
  have zsl:=Lib.hid (show zs.Sl W0 w.heap.size zA zc from ⟨zhc,zhm,zhs⟩)
  have hF0:=hF.keep (hk0.block b hlt trivial)
  have HF0:=Lib.hid hF0
  have HK0:=Lib.hid (hk0.mono (T:=fun k => k ≠ b) fun _ _ => trivial)
  have hcells : ∀ W,FrW W0 b W → (W.cell? ⟨w.heap.size,1,none⟩ = some (.string n) ∧ W.cell? ⟨w.heap.size,2,none⟩ = some (.string m) ∧ W.cell? ⟨w.heap.size,5,none⟩ = some (.slice (some ⟨b',o',none⟩) 3 c) ∧ W.cell? ⟨b',o' + 12,none⟩ = some (.int .i64 zk) ∧ W.cell? ⟨b',o' + 13,none⟩ = some (.string zn) ∧ W.cell? ⟨b',o' + 14,none⟩ = some (.string zm) ∧ W.cell? ⟨b',o' + 15,none⟩ = some (.int .i64 zi) ∧ W.cell? ⟨b',o' + 16,none⟩ = some (.int .i64 zd) ∧ W.cell? ⟨b',o' + 17,none⟩ = some (.slice zA zs.len zc)) ∧ FrW W0 b W:=fun W hW =>
    ⟨⟨(hW.cell hF0 ⟨w.heap.size,1,none⟩ (by simp;omega)).trans hx1,(hW.cell hF0 ⟨w.heap.size,2,none⟩ (by simp;omega)).trans hx2,(hW.cell hF0 ⟨w.heap.size,5,none⟩ (by simp;omega)).trans hx5,(hW.cell hF0 ⟨b',o' + 12,none⟩ (by simp;omega)).trans zh0,(hW.cell hF0 ⟨b',o' + 13,none⟩ (by simp;omega)).trans zh1,(hW.cell hF0 ⟨b',o' + 14,none⟩ (by simp;omega)).trans zh2,(hW.cell hF0 ⟨b',o' + 15,none⟩ (by simp;omega)).trans zh3,(hW.cell hF0 ⟨b',o' + 16,none⟩ (by simp;omega)).trans zh4,(hW.cell hF0 ⟨b',o' + 17,none⟩ (by simp;omega)).trans zh5⟩,hW⟩
  have HC:=Lib.hid hcells
  have xcells : Hid (∀ W,FrW W0 b W → W.cell? ⟨w.heap.size,5,none⟩ = some (.slice (some ⟨b',o',none⟩) 3 c) ∧ W.cell? ⟨b',o',none⟩ = some (.int .i64 xk) ∧ W.cell? ⟨b',o' + 1,none⟩ = some (.string xn) ∧ W.cell? ⟨b',o' + 2,none⟩ = some (.string xm) ∧ W.cell? ⟨b',o' + 3,none⟩ = some (.int .i64 xi) ∧ W.cell? ⟨b',o' + 4,none⟩ = some (.int .i64 xd) ∧ W.cell? ⟨b',o' + 5,none⟩ = some (.slice xA xs.len xc)):=fun W hW =>
    ⟨(hW.cell hF0 ⟨w.heap.size,5,none⟩ (by simp;omega)).trans hx5,(hW.cell hF0 ⟨b',o',none⟩ (by simp;omega)).trans xh0,(hW.cell hF0 ⟨b',o' + 1,none⟩ (by simp;omega)).trans xh1,(hW.cell hF0 ⟨b',o' + 2,none⟩ (by simp;omega)).trans xh2,(hW.cell hF0 ⟨b',o' + 3,none⟩ (by simp;omega)).trans xh3,(hW.cell hF0 ⟨b',o' + 4,none⟩ (by simp;omega)).trans xh4,(hW.cell hF0 ⟨b',o' + 5,none⟩ (by simp;omega)).trans xh5⟩
  have ycells : Hid (∀ W,FrW W0 b W → W.cell? ⟨w.heap.size,5,none⟩ = some (.slice (some ⟨b',o',none⟩) 3 c) ∧ W.cell? ⟨b',o' + 6,none⟩ = some (.int .i64 yk) ∧ W.cell? ⟨b',o' + 7,none⟩ = some (.string yn) ∧ W.cell? ⟨b',o' + 8,none⟩ = some (.string ym) ∧ W.cell? ⟨b',o' + 9,none⟩ = some (.int .i64 yi) ∧ W.cell? ⟨b',o' + 10,none⟩ = some (.int .i64 yd) ∧ W.cell? ⟨b',o' + 11,none⟩ = some (.slice yA ys.len yc)):=fun W hW =>
    ⟨(hW.cell hF0 ⟨w.heap.size,5,none⟩ (by simp;omega)).trans hx5,(hW.cell hF0 ⟨b',o' + 6,none⟩ (by simp;omega)).trans yh0,(hW.cell hF0 ⟨b',o' + 7,none⟩ (by simp;omega)).trans yh1,(hW.cell hF0 ⟨b',o' + 8,none⟩ (by simp;omega)).trans yh2,(hW.cell hF0 ⟨b',o' + 9,none⟩ (by simp;omega)).trans yh3,(hW.cell hF0 ⟨b',o' + 10,none⟩ (by simp;omega)).trans yh4,(hW.cell hF0 ⟨b',o' + 11,none⟩ (by simp;omega)).trans yh5⟩
  have xR : Hid (∀ X,FMap X b (q) fb → Keeps (fun k => k ≠ b) W0 X → Calls Tryz.prog 175 #[.agg #[.int .i64 xk,.string xn,.string xm,.int .i64 xi,.int .i64 xd,.slice xA xs.len xc],.slice B bd.length cB,.map (some b)] X fun e w' => (∃ v,e = .returned v) ∧ FMap w' b (q + 1 + xs.count) (fb || nodeFree xk xn xm xs bd) ∧ Keeps (fun k => k ≠ b) X w'):=by
    intro X hFX hKX
    exact ihx _ _ _ _ _ _ _ bd B cB b _ _ X (FrW.sl hF0 (FrW.start hFX hKX) xsl.out (by omega)) hv.1 hv.2.1 (FrW.sls hF0 (FrW.start hFX hKX) hS0.out (by omega)) hBn hFX (by omega) (by omega)
  have yR : Hid (∀ X,FMap X b (q + 1 + xs.count) (fb || nodeFree xk xn xm xs bd) → Keeps (fun k => k ≠ b) W0 X → Calls Tryz.prog 175 #[.agg #[.int .i64 yk,.string yn,.string ym,.int .i64 yi,.int .i64 yd,.slice yA ys.len yc],.slice B bd.length cB,.map (some b)] X fun e w' => (∃ v,e = .returned v) ∧ FMap w' b (q + 1 + xs.count + 1 + ys.count) ((fb || nodeFree xk xn xm xs bd) || nodeFree yk yn ym ys bd) ∧ Keeps (fun k => k ≠ b) X w'):=by
    intro X hFX hKX
    exact ihy _ _ _ _ _ _ _ bd B cB b _ _ X (FrW.sl hF0 (FrW.start hFX hKX) ysl.out (by omega)) hv.2.2.1 hv.2.2.2.1 (FrW.sls hF0 (FrW.start hFX hKX) hS0.out (by omega)) hBn hFX (by omega) (by omega)
  have HR : Hid (∀ (gg cap base : Nat) (X : World),FMap X b (q + 1 + xs.count + 1 + ys.count) ((fb || nodeFree xk xn xm xs bd) || nodeFree yk yn ym ys bd) → Keeps (fun k => k ≠ b) W0 X → X.ownsRow base 9 1 (.slice (some ⟨gg,0,none⟩) (bd.length + 2) cap) (bd.length + 2) (bd.map .string ++ [.string n,.string m]) →
      Calls Tryz.prog 175 #[.agg #[.int .i64 zk,.string zn,.string zm,.int .i64 zi,.int .i64 zd,.slice zA zs.len zc],.slice (some ⟨gg,0,none⟩) (bd.length + 2) cap,.map (some b)] X fun e w' =>
      (∃ v,e = .returned v) ∧ FMap w' b (q + 1 + xs.count + 1 + ys.count + 1 + zs.count) (((fb || nodeFree xk xn xm xs bd) || nodeFree yk yn ym ys bd) || nodeFree zk zn zm zs (bd ++ [n,m])) ∧ Keeps (fun k => k ≠ b) X w'):=by
    intro gg cap base X hFX hKX hoX
    have h:=ihz zk zn zm zi zd zA zc (bd ++ [n,m]) (some ⟨gg,0,none⟩) cap b _ _ X (FrW.sl hF0 (FrW.start hFX hKX) zsl.out (by omega)) hv.2.2.2.2.1 hv.2.2.2.2.2.1 (sls_own (by simpa using hoX) (by simp)) (by simp) hFX (by omega) (by simp;omega)
    rw [show (bd ++ [n,m]).length = bd.length + 2 by simp] at h
    exact h
  clear hk0 hF hB hcell0 hs hs0 hF0 hcells hv xh0 xh1 xh2 xh3 xh4 xh5 xhc xhm xhs ihx yh0 yh1 yh2 yh3 yh4 yh5 yhc yhm yhs ihy zh0 zh1 zh2 zh3 zh4 zh5 zhc zhm zhs ihz
  have hfrS:=Lib.hid (FrW.start HF0.out (Keeps.refl (fun k => k ≠ b) W0))
  obtain ⟨xc5,xc0,xc1,xc2,xc3,xc4,xc6⟩:=xcells.out _ (hfrS.out)
  go_enter Tryz.func175,Tryz.ntmps175
  go_wp2_with fail
  refine (xR.out _ HF0.out (Keeps.refl _ W0)).mono ?_
  rintro e Xx ⟨⟨v,rfl⟩,Fx,Kx'⟩
  have Kx : Keeps (fun k => k ≠ b) W0 Xx:=Keeps.trans (Keeps.refl _ W0) Kx'
  clear xc5 xc0 xc1 xc2 xc3 xc4 xc6 hW0 hx0 hx1 hx2 hx5
  have HXx:=Lib.hid (And.intro Fx (And.intro Kx (FrW.start Fx Kx)))
  have hzx:=Kx.size
  clear Fx Kx Kx'
  obtain ⟨yc5,yc0,yc1,yc2,yc3,yc4,yc6⟩:=ycells.out _ (HXx.out.2.2)
  go_wp2_with fail
  refine (yR.out _ HXx.out.1 HXx.out.2.1).mono ?_
  rintro e Xy ⟨⟨v,rfl⟩,Fy,Ky'⟩
  have Ky : Keeps (fun k => k ≠ b) W0 Xy:=Keeps.trans HXx.out.2.1 Ky'
  clear yc5 yc0 yc1 yc2 yc3 yc4 yc6
  have HXy:=Lib.hid (And.intro Fy (And.intro Ky (FrW.start Fy Ky)))
  have hzy:=Ky.size
  clear Fy Ky Ky'
  have hfr0:=Lib.hid (FrW.start (FMap.drew HXy.out.1) (Keeps.drew HXy.out.2.1))
  obtain ⟨zc5,zc0,zc1,zc2,zc3,zc4,zc6⟩:=ycells.out _ HXy.out.2.2
  go_wp2_with fail
  clear zc5 zc0 zc1 zc2 zc3 zc4 zc6
  have HNEW:=Lib.hid (show (Xy.alloc (.cells #[.string n,.string m] 9)).heap[Xy.heap.size]? = some (.cells #[.string n,.string m] 9 (0,0)) from heap_alloc_new Xy _)
  go_region_held3 (fun W => (W.cell? ⟨w.heap.size,1,none⟩ = some (.string n) ∧ W.cell? ⟨w.heap.size,2,none⟩ = some (.string m) ∧ W.cell? ⟨w.heap.size,5,none⟩ = some (.slice (some ⟨b',o',none⟩) 3 c) ∧ W.cell? ⟨b',o' + 12,none⟩ = some (.int .i64 zk) ∧ W.cell? ⟨b',o' + 13,none⟩ = some (.string zn) ∧ W.cell? ⟨b',o' + 14,none⟩ = some (.string zm) ∧ W.cell? ⟨b',o' + 15,none⟩ = some (.int .i64 zi) ∧ W.cell? ⟨b',o' + 16,none⟩ = some (.int .i64 zd) ∧ W.cell? ⟨b',o' + 17,none⟩ = some (.slice zA zs.len zc)) ∧ FrW W0 b W)
    (first | exact HC.out _ hfr0.out | exact HC.out _ (FrW.start hF3 hK3) | exact HC.out _ (FrW.start hF2 hK2) | exact HC.out _ (FrW.start (FMap.alloc hF1 _) (Keeps.alloc hK1 _)) | exact HC.out _ (FrW.start hF1 hK1) | exact HC.out _ (FrW.alloc hfr0.out _))
    (first
      | (go_at_call 236;refine (slcClone_any bd B cB _ (FrW.sls HF0.out (by first | exact hfr0.out | exact FrW.alloc hfr0.out _) hS0.out (by omega)) hBn (by omega)).mono ?_;rintro e w1 ⟨v1,rfl,hown1,hbel1⟩;have hF1 : FMap w1 b (q + 1 + xs.count + 1 + ys.count) ((fb || nodeFree xk xn xm xs bd) || nodeFree yk yn ym ys bd):=FMap.below (by first | exact FMap.drew HXy.out.1 | exact FMap.alloc (FMap.drew HXy.out.1) _) hbel1;have hK1 : Keeps (fun k => k ≠ b) W0 w1:=Keeps.belowAll (by first | exact hfr0.out.1 | exact hfr0.out.1.alloc _) hbel1)
      | (go_at_call 175;refine (HR.out gg cap _ _ hF2 hK2 hown2).mono ?_;rintro e w3 ⟨⟨v3,rfl⟩,hF3,hK3'⟩;have hK3:=hK2.trans hK3')
      | (refine step_append_lies _ rfl (.tmp 76) (.tmp 81) 22 rfl _ 9 i0 _ 1 16 Tryz.underlying22 hi hz0 hz1 hz2 rfl (by omega) v1 bd.length (bd.map .string) rfl (hown1.alloc _) ⟨w1.heap.size,0,none⟩ 2 2 [.string n,.string m] rfl rfl (World.news_of_block (cs:=#[.string n,.string m]) (t:=9) (fr:=(0,0)) (heap_alloc_new w1 _)) (by simp [Value.oneCell']) (by omega) (by unfold maxLen;omega) (by omega) (by have:=hbel1.size;simp at this ⊢;omega) _ rfl ?_;intro gg cap w2 hown2 hgrow2 hat2 hlt2
         obtain ⟨hK2,hF2⟩:=grown_own (hK1.alloc _) (hF1.alloc _) (hown1.alloc _) (by omega) (by simp;omega) hgrow2)
      | (refine step_append_lies _ rfl (.tmp 76) (.tmp 81) 22 rfl _ 9 i0 _ 1 16 Tryz.underlying22 hi hz0 hz1 hz2 rfl (by omega) v1 bd.length (bd.map .string) rfl hown1 ⟨Xy.heap.size,0,none⟩ 2 2 [.string n,.string m] rfl rfl (World.news_of_block (cs:=#[.string n,.string m]) (t:=9) (fr:=(0,0)) ((hbel1.block Xy.heap.size (by simp)).trans HNEW.out)) (by simp [Value.oneCell']) (by omega) (by unfold maxLen;omega) (by omega) (by have:=hbel1.size;simp at this ⊢;omega) _ rfl ?_;intro gg cap w2 hown2 hgrow2 hat2 hlt2
         obtain ⟨hK2,hF2⟩:=grown_own hK1 hF1 hown1 (by omega) (by simp;omega) hgrow2))
  all_goals (
    go_wp2
    refine bodyPost_ret (results_none rfl _ _ _) rfl ?_
    refine ⟨⟨_,rfl⟩,?_,HK0.out.trans hK3⟩
    rw [HE1.out]
    exact hF3.mono (by omega))
end Go.Proofs.YtmmecapgnmlaiaaGreatDoor
/- syntax.addFree -/
namespace Go.Proofs.YtmmecapgnmlaiaaGreatDoor
open Go.RowKit Go.Proofs Go.Shelf
theorem addFree_step (s : Fo) (ih : s.All AfOK) : AfOK s:=by
 intro k n m i d A c bd B cB b q fb w hs hk hv hB hBn hF hq hbd
 by_cases h3 : k = 3
 ·subst h3
  exact af_var s n m i d A c bd B cB b q fb w (hk.2.2.2 rfl) hB hF hq
 by_cases h6 : k = 6
 ·subst h6
  have hl:=hk.1 rfl
  match s,hl,ih,hs,hv,hq,hbd with
  | .cons tk tn tm ti td tA tc ts .nil,_,ih,hs,hv,hq,hbd =>
   have hc : (Fo.cons tk tn tm ti td tA tc ts .nil).count = ts.count + 1:=by simp [Fo.count]
   rw [hc] at hq hbd ⊢
   exact af_fun tk tn tm ti td tA tc ts ih.1 n m i d A c bd B cB b q fb w hs hv hB hBn hF hq hbd
 by_cases h8 : k = 8
 ·subst h8
  have hl:=hk.2.1 rfl
  match s,hl,ih,hs,hv,hq,hbd with
  | .cons xk xn xm xi xd xA xc xs (.cons yk yn ym yi yd yA yc ys .nil),_,ih,hs,hv,hq,hbd =>
   exact af_let xk xn xm xi xd xA xc xs ih.1 yk yn ym yi yd yA yc ys ih.2.1 n m i d A c bd B cB b q fb w hs hv hB hBn hF hq hbd
 by_cases h13 : k = 13
 ·subst h13
  have hl:=hk.2.2.1 rfl
  match s,hl,ih,hs,hv,hq,hbd with
  | .cons xk xn xm xi xd xA xc xs (.cons yk yn ym yi yd yA yc ys (.cons zk zn zm zi zd zA zc zs .nil)),_,ih,hs,hv,hq,hbd =>
   exact af_case xk xn xm xi xd xA xc xs ih.1 yk yn ym yi yd yA yc ys ih.2.1 zk zn zm zi zd zA zc zs ih.2.2.1 n m i d A c bd B cB b q fb w hs hv hB hBn hF hq hbd
 exact af_rest s ih k n m i d A c bd B cB b q fb w (by simpa using h3) (by simpa using h6) (by simpa using h8) (by simpa using h13) hs hv hB hBn hF hq hbd
theorem addFree_any (s : Fo) : AfOK s:=Fo.by_parts addFree_step s
end Go.Proofs.YtmmecapgnmlaiaaGreatDoor
/- syntax.Free: whether there is a free variable -/
namespace Go.Proofs.YtmmecapgnmlaiaaGreatDoor
open Go.RowKit Go.Proofs Go.Shelf Go.Sort
def FreeP (fb : Bool) (w : World) (e : Ending) (w' : World) : Prop:=
 ∃ A n c,e = .returned (.slice A n c) ∧ (n = 0 ↔ fb = false) ∧ n ≤ 1000000 ∧ Below w.heap.size w w'
def FreR (D : DataW Unit) (w : World) (bs mb r n : Nat) (g : Nat) (v : Value) (wr : World) : Prop:=
 ∃ (left : Lit → Bool) (cnt : Nat) (ss : List (List UInt8)),g = cnt ∧ wr.ranges Tryz.prog 9 (plainElem Tryz.prog 4) mb r n D left cnt ∧ ss.length + cnt ≤ Maps.size D ∧ (ss = [] → cnt = Maps.size D) ∧
   wr.ownsRow bs 9 1 v ss.length (ss.map encStr) ∧ v ≠ .slice none 0 0 ∧ bs ≤ wr.heap.size ∧ Below w.heap.size w wr
set_option maxRecDepth 100000 in
set_option maxHeartbeats 2000000 in
theorem free_any (k : Int) (n m : ByteArray) (i d : Int) (A : Option Addr) (c : Nat) (s : Fo) (w : World) (hs : s.Sl w w.heap.size A c)
  (he : exprE (⟨1,k,n,m,i,d,A,s.len,c⟩ :: s.pre 2) = 0) (hk : okN k n s.len) (hv : s.Vld) (hc : s.count ≤ 100000) :
  Calls Tryz.prog 127 #[.agg #[.int .i64 k,.string n,.string m,.int .i64 i,.int .i64 d,.slice A s.len c]] w (FreeP (nodeFree k n m s []) w):=by
 obtain ⟨i0,hi,hz0,hz1,hz2⟩:=info_parts Tryz.infoString
 have hmm:=@run_makeMap Tryz.prog
 obtain ⟨FB,HFB⟩ : ∃ FB,Hid (FB = nodeFree k n m s []):=⟨_,rfl⟩
 rw [← HFB.out]
 obtain ⟨W0,hW0⟩ : ∃ W0,w.alloc (.cells #[.int .i64 k,.string n,.string m,.int .i64 i,.int .i64 d,.slice A s.len c] 44) = W0:=⟨_,rfl⟩
 have hzw : w.heap.size < W0.heap.size:=by subst hW0;simp
 have hB0 : Below w.heap.size w W0:=by subst hW0;exact (Below.refl _ _).alloc (Nat.le_refl _) _
 have hx0 : W0.cell? ⟨w.heap.size,0,none⟩ = some (.int .i64 k):=by subst hW0;go_simp
 have hx1 : W0.cell? ⟨w.heap.size,1,none⟩ = some (.string n):=by subst hW0;go_simp
 have hx2 : W0.cell? ⟨w.heap.size,2,none⟩ = some (.string m):=by subst hW0;go_simp
 have hx3 : W0.cell? ⟨w.heap.size,3,none⟩ = some (.int .i64 i):=by subst hW0;go_simp
 have hx4 : W0.cell? ⟨w.heap.size,4,none⟩ = some (.int .i64 d):=by subst hW0;go_simp
 have hx5 : W0.cell? ⟨w.heap.size,5,none⟩ = some (.slice A s.len c):=by subst hW0;go_simp
 have hs0:=hs.keep (w':=W0) (B':=W0.heap.size) (Nat.le_of_lt hzw) fun p hp => hB0.cell hp
 have HC:=Lib.hid (checkExpr_any k n m i d A c s W0 hs0)
 have HH:=Lib.hid (And.intro hs0 (And.intro hB0 (And.intro he (And.intro hk hv))))
 clear hs hs0 hB0 he hk hv
 go_enter Tryz.func127,Tryz.ntmps127
 go_wp2_with fail
 refine HC.out.mono ?_
 rintro e w1 ⟨rfl,hb1⟩
 rw [HH.out.2.2.1]
 have hz1':=hb1.size
 obtain ⟨W1,hW1⟩ : ∃ W1,w1.alloc (.map #[] 0) = W1:=⟨_,rfl⟩
 have hb2 : Below W0.heap.size W0 W1:=by subst hW1;exact hb1.alloc hz1' _
 have y0:=(hb2.cell (p:=⟨w.heap.size,0,none⟩) hzw).trans hx0
 have y1:=(hb2.cell (p:=⟨w.heap.size,1,none⟩) hzw).trans hx1
 have y2:=(hb2.cell (p:=⟨w.heap.size,2,none⟩) hzw).trans hx2
 have y3:=(hb2.cell (p:=⟨w.heap.size,3,none⟩) hzw).trans hx3
 have y4:=(hb2.cell (p:=⟨w.heap.size,4,none⟩) hzw).trans hx4
 have y5:=(hb2.cell (p:=⟨w.heap.size,5,none⟩) hzw).trans hx5
 have hz2':=hb2.size
 have HC2:=Lib.hid (addFree_any s k n m i d A c [] none 0 w1.heap.size 0 false W1 (HH.out.1.keep hz2' fun p hp => hb2.cell hp) HH.out.2.2.2.1 HH.out.2.2.2.2 (SlS.nil _ _ _ _ (by simp [maxLen])) (fun _ => rfl) (by subst hW1;exact FMap.made w1) (by omega) (by simp;omega))
 have HB2:=Lib.hid (And.intro (HH.out.2.1.trans (hb2.mono (by omega))) hb2)
 clear hx0 hx1 hx2 hx3 hx4 hx5 hb1 hb2 hW0
 go_wp2_with fail
 refine HC2.out.mono ?_
 rintro e w2 ⟨⟨v,rfl⟩,hF2,hK2⟩
 obtain ⟨nn,D,hown,hnn,_,hiff⟩:=hF2
 have hbl:=hown.lt
 have hwz : w.heap.size ≤ w1.heap.size:=by omega
 have hzb : w2.heap.size ≥ W1.heap.size:=hK2.size
 have hB2 : Below w.heap.size w w2:=HB2.out.1.trans (hK2.to_below (by omega) fun k hk => by omega)
 have hDn:=hown.size_le
 have HI:=Lib.hid (show Maps.size D = 0 ↔ FB = false by rw [HFB.out];simpa using hiff)
 clear hiff hK2 y0 y1 y2 y3 y4 y5 hW1 HC2 HB2 HC HH
 have hBz:=hB2.size
 go_wp2_with (first
  | (at_len;refine wpList_len_own _ rfl _ 140 rfl 9 4 Tryz.underlying140 _ w1.heap.size nn _ rfl hown ?_)
  | (at_make;refine wpList_make_own _ rfl _ _ 22 rfl w2.heap.size 9 i0 (.string ⟨#[]⟩) 1 Tryz.underlying22 hi hz0 hz1 _ _ _ (Maps.size D) rfl rfl rfl (by rw [hz2];omega) (by unfold maxLen;omega) (Nat.le_refl _) ?_;intro w3 hrow3 hg3)
  | (at_range;refine wpList_range_own _ rfl _ 140 rfl 9 4 strKeyed Tryz.underlying140 _ w1.heap.size nn _ rfl (hown.kept hg3 (by simp)) ?_;intro w4 hrg4 hg4 hs4))
 go_frame
 go_loopg [4,5] (Maps.size D) (fun g v _ wr => FreR D w w2.heap.size w1.heap.size w3.heap.size nn g v wr)
 case atStart =>
  exact ⟨_,_,[],rfl,hrg4,by simp,fun _ => rfl,hrow3.kept hg4 (Or.inr (by simp [Value.ownBlock])),by simp,Nat.le_trans hg3.size hg4.size,
   (hB2.grown hg3 hBz (fun j hj => by cases hj)).grown hg4 (Nat.le_trans hBz hg3.size) (fun j hj => by cases hj)⟩
 case round =>
  obtain ⟨left,cnt,ss,hg,hrg,hcs,hcn,hrow,hnn',hwr,hnx⟩:=hrel
  have HG:=Lib.hid (And.intro hg hcn)
  clear hg hcn
  go_wp2_with (first
   | (at_next;go_loud (refine wpList_next_ranges _ rfl _ rfl 9 strKeyed (plainElem Tryz.prog 4) encStr (fun v : Value => v) (fun key kl hk => by obtain ⟨x,hx,_⟩:=Maps.keyOf_str Tryz.underlying9 hk;exact ⟨x,hx⟩) (fun v _ _ => ⟨v,rfl⟩) w1.heap.size w3.heap.size nn _ _ _ rfl hrg ?_ ?_)))
  ·intro hc0 hl0
   rcases hrow.2 with ⟨hnil,_⟩ | ⟨g,cap,cur,rfl,hbase,hb,h1,h2,h3,h4⟩
   ·exact absurd hnil hnn'
   have hH : Holds encStr wr g 0 ss.toArray:=holds_of_block hb (by simpa using h4)
   have hgl : g < wr.heap.size:=(Array.getElem?_eq_some_iff.1 hb).1
   have hc:=Any.slices_Sort_string Tryz.laysSort g 0 cap ss wr hH hgl (by omega)
   have HS:=Lib.hid hc
   clear hc hH hb h4 h3
   go_wp2_with (go_at_call 176;refine HS.out.mono ?_;rintro e w' ⟨rfl,nn2,os,rfl⟩)
   go_ret
   refine ⟨_,_,_,rfl,?_,by omega,hnx.grown (grownBy_sorted _) hnx.size (fun j hj => by cases hj;exact Nat.le_trans hBz hbase)⟩
   rw [← HI.out]
   have:=HG.out.2
   constructor
   ·intro h0
    have:=HG.out.2 (List.length_eq_zero_iff.1 h0)
    omega
   ·intro h0
    omega
  ·intro x c kl yd yp w5 cnt2 hkey hlk hv hat hrg2 hlt hg2 hs2 hen
   have hrow2:=hrow.kept hg2 (Or.inr (row_ne_iter hrow hrg).symm)
   clear hs2 hat hv hlk hkey
   have HE:=Lib.hid (And.intro hrg (And.intro hrg2 (And.intro hrow2 hlt)))
   clear hrg hrg2 hlt hrow
   go_wp2_with (at_builtin;refine wpList_append_own _ rfl _ _ 22 rfl w2.heap.size 9 i0 (.string ⟨#[]⟩) 1 16 Tryz.underlying22 hi hz0 hz1 hz2 rfl (by decide) _ _ _ rfl (hrow2.alloc _) ⟨w5.heap.size,0,none⟩ 1 1 [encStr x] rfl rfl (cell_one_new _ _ _) (by simp [Value.oneCell',encStr]) (by unfold maxLen;omega) (by omega) (by have:=hg2.size;simp;omega) ?_;intro v' w6 hown' hg6 hnil6;go_frame)
   have hrg3:=(HE.out.2.1.alloc _).kept hg6 (row_ne_low hrow2 hbl) (row_ne_iter hrow2 HE.out.2.1)
   go_roundg cnt2
   case measure => rw [HG.out.1];exact HE.out.2.2.2
   case rel =>
    refine ⟨_,cnt2,ss ++ [x],rfl,hrg3,by have:=HE.out.2.2.2;simp;omega,by simp,by simpa using hown',fun hv' => by have:=(hnil6.1 hv').2;omega,by have:=hg2.size;have:=hg6.size;simp at this;omega,?_⟩
    exact ((hnx.grown hg2 hnx.size (fun j hj => by cases hj;exact Nat.le_trans hBz hg3.size)).alloc (by have:=hnx.size;have:=hg2.size;omega) _).grown hg6 (by have:=hnx.size;have:=hg2.size;simp;omega) (fun j hj => Nat.le_trans hBz (hrow2.lt j hj).1)
end Go.Proofs.YtmmecapgnmlaiaaGreatDoor
