/- infer.components -/
import Derived.Test.YtmmecapgnmlaiaaGreatDoorZyb
import Derived.Test.YtmmecapgnmlaiaaGreatDoorZxj
import Derived.Laws.EntriesVeiled
import Derived.Lib.SliceRun
import Derived.Lib.SlicesDelete
import Derived.Shelf.SlSortCmp.Insertion
import Derived.Deep.RegionLaw
import Derived.Shelf.RegionOpenPlain
import Derived.Test.YtmmecapgnmlaiaaGreatDoorZxt
namespace Go.Proofs.YtmmecapgnmlaiaaGreatDoor
open Go Go.RowKit Go.Proofs Go.Proofs.Scc
def CompsP (W : World) (grs : List (List Int)) (e : Ending) (Y : World) : Prop:=
 ∃ gv gl ov,e = .returned gv ∧ Below W.heap.size W Y ∧ Y.ownsRow (W.heap.size + 11) 39 1 gv gl.length gl ∧ gl.length = grs.length ∧ ∀ (j : Nat) (v : Value) (l : List Int),gl[j]? = some v → grs[j]? = some l → GrAt Y W.heap.size ov v l
def cW (W : World) (mo : Array Value) (ub : Nat) : World:=
 (((((((((((W.alloc (.cells mo 25)).alloc (.cells #[.map (some ub)] 77)).alloc (.cells #[.slice none 0 0] 28)).alloc (.map #[] 0)).alloc (.map #[] 0)).alloc
  (.cells #[.map (some (W.heap.size + 3))] 129)).alloc (.cells #[.map (some (W.heap.size + 4))] 129)).alloc (.map #[] 0)).alloc (.cells #[.map (some (W.heap.size + 7))] 79)).alloc (.cells #[.slice none 0 0] 39)).alloc
  (.cells #[.func (.func 82) #[] (caps W.heap.size)] 130))
theorem al_new (X : World) (o : Obj) (k : Nat) (h : X.heap.size = k) : (X.alloc o).heap[k]? = some o:=by rw [← h];exact heap_alloc_new X o
theorem al_old (X : World) (o : Obj) (k : Nat) (h : k < X.heap.size) : (X.alloc o).heap[k]? = X.heap[k]?:=Below.heap_alloc _ _ _ h
theorem al_size (X : World) (o : Obj) : (X.alloc o).heap.size = X.heap.size + 1:=by simp
theorem map_at {w : World} {b : Nat} (h : w.heap[b]? = some (.map #[] 0)) : MapZ intK w b 0 (fun _ => none):=
 ⟨_,⟨#[],0,h,⟨by simp,Go.MapKept.stamped_empty 0,by simp⟩,Nat.le_refl _,rfl⟩,rfl,⟨_,rfl⟩,fun _ _ => Maps.atKey_of_not_has rfl _⟩
theorem TjI.start {W : World} {mo : Array Value} {ub : Nat} {used : Int → List Int} (hu : UsAt W.heap.size ub used W) (hub : ub < W.heap.size) :
  TjI W.heap.size ub used W (cW W mo ub) (.slice none 0 0) (.slice none 0 0) [] tj0 ∧ (cW W mo ub).heap[W.heap.size]? = some (.cells mo 25 (0,0)):=by
 have hz : (cW W mo ub).heap.size = W.heap.size + 11:=by simp [cW]
 have hold : Below W.heap.size W (cW W mo ub):=by
  unfold cW
  repeat (first | exact Below.refl _ _ | refine Below.alloc ?_ (by simp <;> omega) _)
 refine ⟨⟨⟨by omega,?_,?_,?_,?_,?_,hu,hub,fun k hk => hold.block k hk,hold.os,hold.tape,hold.output⟩,?_,?_,?_,?_,⟨0,Nat.le_refl _,?_⟩,World.ownsRow_nil _ _ _ _,World.ownsRow_nil _ _ _ _,rfl,fun j v l hv => by simp at hv⟩,?_⟩
 ·(unfold cW;repeat (first | (refine al_new _ _ _ ?_;simp only [al_size] <;> omega) | (refine (al_old _ _ _ ?_).trans ?_;(simp only [al_size];omega))))
 ·(unfold cW;repeat (first | (refine al_new _ _ _ ?_;simp only [al_size] <;> omega) | (refine (al_old _ _ _ ?_).trans ?_;(simp only [al_size];omega))))
 ·(unfold cW;repeat (first | (refine al_new _ _ _ ?_;simp only [al_size] <;> omega) | (refine (al_old _ _ _ ?_).trans ?_;(simp only [al_size];omega))))
 ·(unfold cW;repeat (first | (refine al_new _ _ _ ?_;simp only [al_size] <;> omega) | (refine (al_old _ _ _ ?_).trans ?_;(simp only [al_size];omega))))
 ·(unfold cW;repeat (first | (refine al_new _ _ _ ?_;simp only [al_size] <;> omega) | (refine (al_old _ _ _ ?_).trans ?_;(simp only [al_size];omega))))
 ·(unfold cW;repeat (first | (refine al_new _ _ _ ?_;simp only [al_size] <;> omega) | (refine (al_old _ _ _ ?_).trans ?_;(simp only [al_size];omega))))
 ·(unfold cW;repeat (first | (refine al_new _ _ _ ?_;simp only [al_size] <;> omega) | (refine (al_old _ _ _ ?_).trans ?_;(simp only [al_size];omega))))
 ·exact (map_at (b:=W.heap.size + 3) (by (unfold cW;repeat (first | (refine al_new _ _ _ ?_;simp only [al_size] <;> omega) | (refine (al_old _ _ _ ?_).trans ?_;(simp only [al_size];omega)))))).cong fun a _ => rfl
 ·exact (map_at (b:=W.heap.size + 4) (by (unfold cW;repeat (first | (refine al_new _ _ _ ?_;simp only [al_size] <;> omega) | (refine (al_old _ _ _ ?_).trans ?_;(simp only [al_size];omega)))))).cong fun a _ => rfl
 ·exact ((map_at (b:=W.heap.size + 7) (by (unfold cW;repeat (first | (refine al_new _ _ _ ?_;simp only [al_size] <;> omega) | (refine (al_old _ _ _ ?_).trans ?_;(simp only [al_size];omega)))))).cong (g':=fun a => if tj0.dn a = true then some (.bool true) else none) fun a _ => rfl).a
 ·(unfold cW;repeat (first | (refine al_new _ _ _ ?_;first | rfl | omega) | (refine (al_old _ _ _ ?_).trans ?_;(simp only [al_size];omega))))
theorem comps_snoc (succ : Int → List Int) (f : Nat) (d : Int) : ∀ (l : List Int) (σ : Tj),comps succ f (l ++ [d]) σ = (if (comps succ f l σ).num d = 0 then visit succ f d (comps succ f l σ) else comps succ f l σ)
 | [],_ => rfl
 | _ :: l,_ => comps_snoc succ f d l _
theorem comps_ok {V : List Int} {succ : Int → List Int} (hV : V.Nodup) (hs : ∀ x ∈ V,∀ u ∈ succ x,u ∈ V) {f : Nat} (hf : V.length ≤ f) : ∀ (l : List Int) (σ : Tj),(∀ x ∈ l,x ∈ V) → Ok V σ → Ok V (comps succ f l σ)
 | [],_,_,h => h
 | x :: l,σ,hl,h => by
  unfold comps
  refine comps_ok hV hs hf l _ (fun z hz => hl z (List.mem_cons_of_mem _ hz)) ?_
  split
  ·exact (visit_ok hV hs f x σ h (hl x List.mem_cons_self) (by assumption) (by omega)).1
  ·exact h
theorem SlD.keepW {w w' : World} {B : Nat} {A : Option Addr} {c : Nat} {l : List Dc} (h : SlD w B A c l) (hk : Below B w w') : SlD w' B A c l:=h.keep (Nat.le_refl _) fun _ hp => World.cell?_of_block (hk.block _ hp)
set_option maxRecDepth 100000 in
set_option maxHeartbeats 8000000 in
theorem comps_any {ub : Nat} {used : Int → List Int} {W : World} {label : ByteArray} {uA dA : Option Addr} {un uc dc : Nat} {ds : List Dc} (hG : GrOk used (ds.map Dc.id)) (hd : SlD W W.heap.size dA dc ds) (hu : UsAt W.heap.size ub used W) (hub : ub < W.heap.size) :
  Calls Tryz.prog 45 #[.agg #[.string label,.slice uA un uc,.slice dA ds.length dc],.map (some ub)] W (CompsP W (comps used ds.length (ds.map Dc.id) tj0).grs):=by
 have hmm:=@run_makeMap Tryz.prog
 obtain ⟨M,HM⟩ : ∃ M,Hid (ds.length = M):=⟨_,Lib.hid rfl⟩
 have hMc : M ≤ 1000:=by rw [← HM.out];have:=hG.vl;simpa using this
 obtain ⟨hS,hmo⟩:=TjI.start (mo:=#[.string label,.slice uA un uc,.slice dA ds.length dc]) hu hub
 have t2:=cell_of_row _ W.heap.size 2 _ _ (0,0) hmo
 simp at t2
 rw [HM.out] at hS t2 hmo ⊢
 obtain ⟨W1,hW1⟩ : ∃ W1,cW W #[.string label,.slice uA un uc,.slice dA M dc] ub = W1:=⟨_,rfl⟩
 rw [hW1] at hS t2 hmo
 obtain ⟨n,Hn⟩ : ∃ n,Hid (W.heap.size = n):=⟨_,Lib.hid rfl⟩
 have HH:=Lib.hid (And.intro hG (And.intro hd (And.intro hu hub)))
 have HS:=Lib.hid (And.intro hS hmo)
 obtain ⟨R,HR⟩ : ∃ R,Hid ((comps used M (ds.map Dc.id) tj0).grs = R):=⟨_,Lib.hid rfl⟩
 rw [HR.out]
 have eg:=enterFn (fid:=82) rfl rfl rfl
 clear hG hd hu hub hS hmo
 go_enter Tryz.func45,Tryz.ntmps45
 go_upto_region 7 with fail
 simp only [Nat.add_assoc,Nat.reduceAdd]
 unfold cW caps cP at hW1
 try rw [hW1]
 go_wp2
 go_loopg [12,20] M (fun g _ ct w => ∃ (j : Nat) (ov gv : Value) (gl : List Value),g = M - j ∧ j ≤ M ∧ ct = .int .i64 j ∧ TjI W.heap.size ub used W w ov gv gl (comps used M ((ds.map Dc.id).take j) tj0))
 case atStart => exact ⟨0,_,_,_,rfl,Nat.zero_le _,rfl,HS.out.1⟩
 case round =>
  obtain ⟨j,ov,gv,gl,hg,hj,rfl,hI⟩:=hrel
  have hbW : Below W.heap.size W wr:=⟨hI.f.os,hI.f.tape,hI.f.output,by have:=hI.f.z;omega,hI.f.old⟩
  by_cases hlt : j < M
  ·have hlt' : j < ds.length:=by rw [HM.out];exact hlt
   obtain ⟨x,hx⟩ : ∃ x,ds[j]? = some x:=⟨_,List.getElem?_eq_getElem hlt'⟩
   have hd:=HH.out.2.1.keepW hbW
   obtain ⟨b,o,rfl,hb,hall⟩:=hd.2.2 (by intro e;rw [e] at hlt';simp at hlt')
   obtain ⟨hcs,_⟩:=hall j x hx
   have hxV : x.id ∈ ds.map Dc.id:=List.mem_map.2 ⟨x,List.mem_of_getElem? hx,rfl⟩
   have hxj : (ds.map Dc.id)[j]? = some x.id:=by rw [List.getElem?_map,hx];rfl
   obtain ⟨xid,xkind,xpub,xnA,xnc,xnames,xdoubt,xk,xn,xm,xi,xd,xA,xc,xs⟩:=x
   have d0 : wr.cell? ⟨b,o + j * 11,none⟩ = some (.int .i64 xid):=hcs 0 _ rfl
   have d1 : wr.cell? ⟨b,o + j * 11 + 1,none⟩ = some (.int .i64 xkind):=hcs 1 _ rfl
   have d2 : wr.cell? ⟨b,o + j * 11 + 2,none⟩ = some (.bool xpub):=hcs 2 _ rfl
   have d3 : wr.cell? ⟨b,o + j * 11 + 3,none⟩ = some (.slice xnA xnames.length xnc):=hcs 3 _ rfl
   have d4 : wr.cell? ⟨b,o + j * 11 + 4,none⟩ = some (.bool xdoubt):=hcs 4 _ rfl
   have d5 : wr.cell? ⟨b,o + j * 11 + 5,none⟩ = some (.int .i64 xk):=hcs 5 _ rfl
   have d6 : wr.cell? ⟨b,o + j * 11 + 6,none⟩ = some (.string xn):=hcs 6 _ rfl
   have d7 : wr.cell? ⟨b,o + j * 11 + 7,none⟩ = some (.string xm):=hcs 7 _ rfl
   have d8 : wr.cell? ⟨b,o + j * 11 + 8,none⟩ = some (.int .i64 xi):=hcs 8 _ rfl
   have d9 : wr.cell? ⟨b,o + j * 11 + 9,none⟩ = some (.int .i64 xd):=hcs 9 _ rfl
   have d10 : wr.cell? ⟨b,o + j * 11 + 10,none⟩ = some (.slice xA xs.len xc):=hcs 10 _ rfl
   have hst:=comps_snoc used M xid ((ds.map Dc.id).take j) tj0
   have htk : (ds.map Dc.id).take j ++ [xid] = (ds.map Dc.id).take (j + 1):=by rw [List.take_add_one,hxj];rfl
   rw [htk] at hst
   obtain ⟨W3,hW3⟩ : ∃ W3,wr.alloc (.cells #[.int .i64 xid,.int .i64 xkind,.bool xpub,.slice xnA xnames.length xnc,.bool xdoubt,.int .i64 xk,.string xn,.string xm,.int .i64 xi,.int .i64 xd,.slice xA xs.len xc] 46) = W3:=⟨_,rfl⟩
   have hb3 : Below wr.heap.size wr W3:=by subst hW3;exact (Below.refl _ _).alloc (Nat.le_refl _) _
   have hr3 : W3.heap[wr.heap.size]? = some (.cells #[.int .i64 xid,.int .i64 xkind,.bool xpub,.slice xnA xnames.length xnc,.bool xdoubt,.int .i64 xk,.string xn,.string xm,.int .i64 xi,.int .i64 xd,.slice xA xs.len xc] 46 (0,0)):=by subst hW3;exact heap_alloc_new wr _
   have e0:=cell_of_row W3 wr.heap.size 0 _ _ (0,0) hr3
   simp at e0
   have hI3:=hI.below hb3
   obtain ⟨c5,_,_,_,c10,_⟩:=hI3.cells
   unfold caps cP at c10
   obtain ⟨τ,Hτ⟩ : ∃ τ,Hid (comps used M ((ds.map Dc.id).take j) tj0 = τ):=⟨_,Lib.hid rfl⟩
   rw [Hτ.out] at hI3 hst
   have hokτ : Ok (ds.map Dc.id) τ:=by
    rw [← Hτ.out]
    exact comps_ok HH.out.1.nd HH.out.1.us (by rw [List.length_map,HM.out];exact Nat.le_refl _) _ _ (fun z hz => List.mem_of_mem_take hz) (Ok.start _)
   obtain ⟨l3,_,_,_⟩:=hI3.looks (HH.out.1.ok xid hxV)
   have HJ:=Lib.hid (And.intro hg (And.intro hI3 (And.intro hst hokτ)))
   by_cases hn0 : τ.num xid = 0
   ·have hn0' : (τ.num xid == 0) = true:=by simpa using hn0
    have HC:=Lib.hid (visit_any HH.out.1 M xid W3 ov gv gl τ hI3 hokτ hxV hn0 (by rw [List.length_map,HM.out];omega))
    rw [hn0] at l3
    clear hI hbW hd hall hcs hx hxV hxj htk hst hb3 hr3 hI3 hokτ hg
    go_upto_region 10 with fail
    try rw [hW3]
    go_wp2_with fail
    with_reducible refine Calls.mono HC.out ?_
    rintro e Y ⟨rfl,ov2,gv2,gl2,hI2⟩
    have HI2:=Lib.hid hI2
    clear hI2
    go_wp2
    go_roundg (M - (j + 1))
    case measure => have:=HJ.out.1;omega
    case rel => exact ⟨j + 1,_,_,_,rfl,by omega,by go_num,by rw [HJ.out.2.2.1,if_pos hn0];exact HI2.out⟩
   ·have hn0' : (τ.num xid == 0) = false:=by simpa using hn0
    clear hI hbW hd hall hcs hx hxV hxj htk hst hb3 hr3 hI3 hokτ hg
    go_upto_region 10 with fail
    try rw [hW3]
    go_wp2
    go_roundg (M - (j + 1))
    case measure => have:=HJ.out.1;omega
    case rel => exact ⟨j + 1,_,_,_,rfl,by omega,by go_num,by rw [HJ.out.2.2.1,if_neg hn0];exact HJ.out.2.1⟩
  ·obtain rfl : j = M:=by omega
   have i1 : decide ((j : Int) < (j : Int)) = false:=decide_eq_false (by omega)
   have i2 : decide (j < j) = false:=decide_eq_false (by omega)
   rw [List.take_of_length_le (by rw [List.length_map,HM.out];exact Nat.le_refl _)] at hI
   obtain ⟨_,_,_,_,_,_,c2,_⟩:=hI.cells
   have HI:=Lib.hid (And.intro hI hbW)
   clear hI hbW hg
   go_wp2
   go_ret
   refine ⟨gv,gl,ov,rfl,HI.out.2,HI.out.1.rg,?_,?_⟩
   ·rw [HI.out.1.gn,HR.out]
   ·have:=HI.out.1.gs
    rw [HR.out] at this
    exact this
end Go.Proofs.YtmmecapgnmlaiaaGreatDoor
/- rows of one-cell values: Delete at groups; the closure that tells whether a group is ready; IndexFunc -/
namespace Go.Proofs.YtmmecapgnmlaiaaGreatDoor
open Go Go.RowKit Go.Proofs Go.Proofs.Scc Go.Sort
theorem row_holds {α : Type} [Inhabited α] {enc : α → Value} {w : World} {base g cap : Nat} {e : TypeId} {l : List α} (h : w.ownsRow base e 1 (.slice (some ⟨g,0,none⟩) l.length cap) l.length (l.map enc)) : Holds enc w g 0 l.toArray:=by
 intro j hj
 have hj' : j < l.length:=by simpa using hj
 refine ⟨?_,h.frozenAt _⟩
 rw [Nat.zero_add,h.cellAt j (by omega),List.getElem?_map,List.getElem?_eq_getElem hj']
 rw [getElem!_pos _ j (by simpa using hj')]
 simp
theorem owns_putRow {α : Type} [Inhabited α] {enc : α → Value} {w : World} {base g cap n : Nat} {e : TypeId} {xs : List Value} (h : w.ownsRow base e 1 (.slice (some ⟨g,0,none⟩) n cap) n xs) (d : Array α) (hd : d.size = n) {m : Nat} (hm : m ≤ n) (q : Nat) :
  (putRow enc (Sort.ahead w q) g 0 d).ownsRow base e 1 (.slice (some ⟨g,0,none⟩) m cap) m ((d.toList.map enc).take m) ∧ w.grownBy (putRow enc (Sort.ahead w q) g 0 d) (some g):=by
 rcases h.2 with ⟨e0,_⟩ | ⟨g',cap',cur,e1,e2,e3,e4,e5,e6,e7⟩
 ·cases e0
 ·cases e1
  have hb : (putRow enc (Sort.ahead w q) g 0 d).heap[g]? = some (.cells (putCells enc 0 d cur) e (0,0)):=by
   simp [putRow,mapBlock,Sort.ahead,Array.getElem?_modify,e3,onCells]
  refine ⟨⟨by simp [hd];omega,.inr ⟨g,cap,_,rfl,e2,hb,by omega,e5,by simp [putCells,e6],?_⟩⟩,⟨rfl,rfl,rfl,by simp [putRow,mapBlock,Sort.ahead],fun k hk hne => ?_⟩⟩
  ·apply List.ext_getElem?
   intro j
   by_cases hj : j < m
   ·have hjd : j < d.size:=by omega
    rw [Nat.mul_one,List.getElem?_take_of_lt hj,List.getElem?_take_of_lt hj,Array.getElem?_toList,List.getElem?_map]
    have hjc : j < cur.size:=by omega
    simp [putCells,hjd,hjc]
   ·rw [Nat.mul_one,List.getElem?_take_eq_none (by omega),List.getElem?_take_eq_none (by omega)]
  ·have : g ≠ k:=fun e' => hne (by rw [e'])
   simp [putRow,mapBlock,Sort.ahead,Array.getElem?_modify,this]
set_option maxHeartbeats 4000000 in
set_option maxRecDepth 1000000 in
theorem slcDelG_arr (blk cap i j : Nat) (d : Array Value) (w : World) (hH : Holds id w blk 0 d) (hone : ∀ v ∈ d.toList,v.oneCell' = true) (hcap : d.size ≤ cap) (_hm : cap ≤ 9223372036854775807) (hij : i + 1 = j) (hi : j ≤ d.size) :
  Calls Tryz.prog 81 #[.slice (some ⟨blk,0,none⟩) d.size cap,.int .i64 i,.int .i64 j] w fun e w' => e = .returned (.slice (some ⟨blk,0,none⟩) (d.size - 1) cap) ∧ ∃ q,w' = putRow id (Sort.ahead w q) blk 0 (d.toList.take i ++ d.toList.drop j ++ List.replicate 1 (Value.slice none 0 0)).toArray:=by
 have mixed : Tryz.prog.follows .mixedOrders = true:=rfl
 obtain ⟨i0,hi0,hz0,hz1,hz2⟩:=info_parts Tryz.infoInts
 obtain ⟨news,hnews⟩ : ∃ news,news = d.toList.drop j:=⟨_,rfl⟩
 have hlen : news.length = d.size - j:=by rw [hnews];simp
 have hget : ∀ t,t < d.size - j → news[t]? = some (d[j + t]!):=by
  intro t ht
  rw [hnews,List.getElem?_drop,Array.getElem?_toList,getElem!_pos d (j + t) (by omega),Array.getElem?_eq_getElem (by omega)]
 obtain ⟨A,hA,hsrc⟩ : ∃ A : Addr,(if cap = j then some (⟨blk,0,none⟩ : Addr) else some ⟨blk,j,none⟩) = some A ∧ Hid (∀ t u,news[t]? = some u → w.drew.cell? (A.add t) = some u):=by
  by_cases h : cap = j
  ·refine ⟨⟨blk,0,none⟩,by simp [h],fun t u hu => ?_⟩
   have h0 : news.length = 0:=by rw [hlen];omega
   rw [List.length_eq_zero_iff.1 h0] at hu
   simp at hu
  ·refine ⟨⟨blk,j,none⟩,by simp [h],fun t u hu => ?_⟩
   have ht : t < d.size - j:=by
    have:=(List.getElem?_eq_some_iff.1 hu).1
    rwa [hlen] at this
   rw [hget t ht] at hu
   rw [Addr.add_lit]
   have:=(hH (j + t) (by omega)).1
   rw [Nat.zero_add] at this
   exact this.trans hu
 have s1 : Hid (news.length = (d.size - j) * 1):=by rw [Nat.mul_one];exact hlen
 have s2 : Hid (∀ u ∈ news,u.oneCell' = true):=by
  intro u hu
  rw [hnews] at hu
  exact hone u (List.mem_of_mem_drop hu)
 have s3 : Hid (∀ t,t < news.length → (w.drew.cell? ⟨blk,0 + i * 1 + t,none⟩).isSome = true ∧ w.drew.frozen? ⟨blk,0 + i * 1 + t,none⟩ = false):=by
  intro t ht
  rw [hlen] at ht
  rw [Nat.mul_one,Nat.add_assoc]
  exact ⟨by show (w.cell? _).isSome = true;rw [(hH (i + t) (by omega)).1];rfl,(hH (i + t) (by omega)).2⟩
 obtain ⟨W1,hW1⟩ : ∃ W1,W1 = w.drew.setCells blk (0 + i * 1) news:=⟨_,rfl⟩
 have hW1' : W1 = putRow id (Sort.ahead w 1) blk 0 (Lib.lay d i (d.toList.drop j)):=by
  have e0:=Lib.putRow_setCells id (Sort.ahead w 1) blk 0 (d.toList.drop j) d i (by simp;omega)
  rw [hW1,hnews,Nat.mul_one,← e0,putRow_self id (Sort.ahead w 1) blk 0 d (Sort.holds_ahead id w 1 blk 0 d hH),List.map_id]
  rfl
 have hH1 : Holds id W1 blk 0 (Lib.lay d i (d.toList.drop j)):=by rw [hW1'];exact holds_putRow id _ blk 0 d _ (Sort.holds_ahead id w 1 blk 0 d hH) (Lib.lay_size _ _ _)
 have hcl : ∀ ty,(Builtin.clear_ #[28] ty #[.slice (some ⟨blk,i + (d.size - j),none⟩) (d.size - (i + (d.size - j))) (cap - (i + (d.size - j)))]).run Tryz.prog W1 = .ok (.tuple #[]) (W1.setCells blk (i + (d.size - j)) (List.replicate (d.size - (i + (d.size - j))) (.slice none 0 0))):=
  fun ty => Lib.run_clear_slice W1 _ _ ty _ Tryz.undIntss zeroInts rfl rfl blk (i + (d.size - j)) _ _ (by omega) (fun t ht => by have:=(hH1 (i + (d.size - j) + t) (by rw [Lib.lay_size];omega)).1;rw [Nat.zero_add] at this;rw [this];rfl) (fun t ht => by have:=(hH1 (i + (d.size - j) + t) (by rw [Lib.lay_size];omega)).2;rw [Nat.zero_add] at this;exact this)
 have X : Hid (W1 = putRow id (Sort.ahead w 1) blk 0 (Lib.lay d i (d.toList.drop j))):=hW1'
 have hW : Hid (W1 = w.drew.setCells blk (0 + i * 1) news):=hW1
 have hic : i ≤ cap:=by omega
 have hjc : j ≤ cap:=by omega
 obtain ⟨N,HN⟩ : ∃ N,Hid (d.size = N):=⟨_,Lib.hid rfl⟩
 rw [HN.out] at hcl hcap hi s1 ⊢
 have e1 : i + (N - j) = N - 1:=by omega
 simp only [e1] at hcl
 have e2 : N - (N - 1) = 1:=by omega
 simp only [e2] at hcl
 have hne : (i == j) = false:=by simp;omega
 clear hW1 hW1' hH1 hH hget hnews hlen
 go_enter Tryz.func81,Tryz.ntmps81
 go_wp2_with fail
 go_region_law_o (refine step_append_room rfl (.tmp 22) (.tmp 25) 28 rfl 39 i0 1 Tryz.undIntss hi0 hz1 blk 0 i cap (by simp [Act.eval,Act.put]) A (N - j) (cap - j) news (by simp [Act.eval,Act.put]) s1.out hsrc.out s2.out (by omega) s3.out ?_;rw [← hW.out])
 go_wp2
 go_ret
 refine ⟨rfl,1,?_⟩
 have e3:=Lib.delete_arr d i j (Value.slice none 0 0) (by omega) (by rw [HN.out];omega)
 have e4 : j - i = 1:=by omega
 rw [e4,HN.out,e1] at e3
 rw [← e3,← Lib.putRow_setCells id _ blk 0 _ _ (N - 1) (by rw [Lib.lay_size,HN.out];simp;omega),← X.out,List.map_id,Nat.zero_add]
 rfl
theorem slcDelG_any {base g cap : Nat} {gl : List Value} {w : World} (h : w.ownsRow base 39 1 (.slice (some ⟨g,0,none⟩) gl.length cap) gl.length gl) (h1 : ∀ v ∈ gl,v.oneCell' = true) {i j : Nat} (hij : i + 1 = j) (hi : j ≤ gl.length) :
  Calls Tryz.prog 81 #[.slice (some ⟨g,0,none⟩) gl.length cap,.int .i64 i,.int .i64 j] w fun e w' => e = .returned (.slice (some ⟨g,0,none⟩) (gl.length - 1) cap) ∧ w'.ownsRow base 39 1 (.slice (some ⟨g,0,none⟩) (gl.length - 1) cap) (gl.length - 1) (gl.eraseIdx i) ∧ w.grownBy w' (some g):=by
 have hH : Holds id w g 0 gl.toArray:=row_holds (enc:=id) (by rw [List.map_id];exact h)
 have hc : gl.length ≤ cap ∧ cap ≤ maxLen:=by
  rcases h.2 with ⟨e0,_⟩ | ⟨g',cap',cur,e1,e2,e3,e4,e5,e6,e7⟩
  ·cases e0
  ·cases e1;exact ⟨e4,e5⟩
 have hm:=slcDelG_arr g cap i j gl.toArray w hH (by simpa using h1) (by simpa using hc.1) (by have:=hc.2;unfold maxLen at this;omega) hij (by simpa using hi)
 simp only [List.size_toArray] at hm
 refine hm.mono ?_
 rintro e w' ⟨rfl,q,rfl⟩
 have hl : (gl.take i ++ gl.drop j).length = gl.length - 1:=by simp;omega
 obtain ⟨k1,k2⟩:=owns_putRow (enc:=id) h (gl.take i ++ gl.drop j ++ List.replicate 1 (Value.slice none 0 0)).toArray (by simp;omega) (m:=gl.length - 1) (by omega) q
 refine ⟨rfl,?_,k2⟩
 have e : ((gl.take i ++ gl.drop j ++ List.replicate 1 (Value.slice none 0 0)).toArray.toList.map id).take (gl.length - 1) = gl.eraseIdx i:=by
  rw [List.map_id]
  show (gl.take i ++ gl.drop j ++ _).take _ = _
  rw [List.take_append_of_le_length (by omega),← hl,List.take_length,List.eraseIdx_eq_take_drop_succ,hij]
 rw [e] at k1
 exact k1
end Go.Proofs.YtmmecapgnmlaiaaGreatDoor
/- infer, plainly: groups in the order of dependence -/
namespace Go.Proofs.Scc
def rdyU (come : Int → Bool) (g : List Int) (l : List Int) : Bool:=l.all fun u => come u || decide (u ∈ g)
def rdy (used : Int → List Int) (come : Int → Bool) (g : List Int) : Bool:=g.all fun id => rdyU come g (used id)
def putC (come : Int → Bool) (g : List Int) : Int → Bool:=fun x => come x || decide (x ∈ g)
def ordT (used : Int → List Int) : Nat → (Int → Bool) → List (List Int) → List (List Int)
 | 0,_,_ => []
 | n + 1,come,gs => match gs.findIdx? (rdy used come) with
  | none => []
  | some k => gs.getD k [] :: ordT used n (putC come (gs.getD k [])) (gs.eraseIdx k)
def headI (g : List Int) : Int:=g.headD 0
def sortG (gs : List (List Int)) : List (List Int):=gs.mergeSort fun a b => decide (headI a ≤ headI b)
def groupsT (used : Int → List Int) (V : List Int) : List (List Int):=
 ordT used (comps used V.length V tj0).grs.length (fun _ => false) (sortG (comps used V.length V tj0).grs)
theorem asc_ext : ∀ {l m : List Int},l.Pairwise (· < ·) → m.Pairwise (· < ·) → (∀ x,x ∈ l ↔ x ∈ m) → l = m
 | [],[],_,_,_ => rfl
 | [],b :: m,_,_,h => by have:=(h b).2 List.mem_cons_self;cases this
 | a :: l,[],_,_,h => by have:=(h a).1 List.mem_cons_self;cases this
 | a :: l,b :: m,hl,hm,h => by
  rw [List.pairwise_cons] at hl hm
  have e : a = b:=by
   rcases List.mem_cons.1 ((h a).1 List.mem_cons_self) with e | h1
   ·exact e
   ·rcases List.mem_cons.1 ((h b).2 List.mem_cons_self) with e | h2
    ·exact e.symm
    ·have:=hl.1 b h2
     have:=hm.1 a h1
     omega
  subst e
  rw [asc_ext hl.2 hm.2 fun x => ?_]
  have:=h x
  rw [List.mem_cons,List.mem_cons] at this
  constructor
  ·intro hx
   exact (this.1 (.inr hx)).resolve_left fun e => by have:=hl.1 x hx;omega
  ·intro hx
   exact (this.2 (.inr hx)).resolve_left fun e => by have:=hm.1 x hx;omega
theorem asc_nodup {l : List Int} (h : l.Pairwise (· < ·)) : l.Nodup:=h.imp fun {a b} h => by omega
theorem head_mem {g : List Int} (h : g ≠ []) : headI g ∈ g:=by
 cases g with
 | nil => exact absurd rfl h
 | cons a l => exact List.mem_cons_self
theorem rdy_iff {used : Int → List Int} {come : Int → Bool} {g : List Int} : rdy used come g = true ↔ ∀ x ∈ g,∀ u ∈ used x,come u = true ∨ u ∈ g:=by
 unfold rdy rdyU
 simp only [List.all_eq_true,Bool.or_eq_true,decide_eq_true_eq]
def Ordr (used : Int → List Int) : (Int → Bool) → List (List Int) → Prop
 | _,[] => True
 | come,g :: l => rdy used come g = true ∧ Ordr used (putC come g) l
def Dj (g h : List Int) : Prop:=∀ x ∈ g,x ∉ h
theorem Dj.symm {g h : List Int} (d : Dj g h) : Dj h g:=fun x hx hg => d x hg hx
theorem pw_mem {α : Type} {R : α → α → Prop} (hs : ∀ a b,R a b → R b a) : ∀ {l : List α},l.Pairwise R → ∀ a ∈ l,∀ b ∈ l,a ≠ b → R a b
 | [],_,_,ha,_,_,_ => by cases ha
 | x :: l,h,a,ha,b,hb,e => by
  rw [List.pairwise_cons] at h
  rcases List.mem_cons.1 ha with ea | ha' <;> rcases List.mem_cons.1 hb with eb | hb'
  ·exact absurd (ea.trans eb.symm) e
  ·rw [ea];exact h.1 b hb'
  ·rw [eb];exact hs _ _ (h.1 a ha')
  ·exact pw_mem hs h.2 a ha' b hb' e
theorem erase_perm {α : Type} : ∀ {l : List α} {k : Nat} (hk : k < l.length),(l[k] :: l.eraseIdx k).Perm l
 | [],_,h => by simp at h
 | _ :: _,0,_ => .refl _
 | a :: l,k + 1,h => by
  have:=erase_perm (l:=l) (k:=k) (by simpa using h)
  exact (List.Perm.swap _ _ _).trans (this.cons a)
structure OrH (succ : Int → List Int) (V : List Int) (come : Int → Bool) (gs : List (List Int)) : Prop where
 grp : ∀ g ∈ gs,Grp succ V g
 dj : gs.Pairwise Dj
 cov : ∀ x ∈ V,come x = true ∨ ∃ g ∈ gs,x ∈ g
 cd : ∀ g ∈ gs,∀ x ∈ g,come x = false
 cl : ∀ x,come x = true → ∀ u ∈ succ x,come u = true
section
variable {succ : Int → List Int} {V : List Int} {come : Int → Bool} {gs : List (List Int)}
theorem countP_lt {α : Type} {p q : α → Bool} : ∀ {l : List α} {a : α},a ∈ l → (∀ x,q x = true → p x = true) → p a = true → q a = false → l.countP q < l.countP p
 | [],_,h,_,_,_ => by cases h
 | x :: l,a,h,hpq,hp,hq => by
  rcases List.mem_cons.1 h with rfl | h
  ·rw [List.countP_cons_of_pos hp,List.countP_cons_of_neg (by rw [hq];simp)]
   exact Nat.lt_succ_of_le (List.countP_mono_left fun x _ h => hpq x h)
  ·have ih:=countP_lt h hpq hp hq
   cases hx : q x with
   | true => rw [List.countP_cons_of_pos hx,List.countP_cons_of_pos (hpq x hx)];omega
   | false =>
    rw [List.countP_cons_of_neg (by rw [hx];simp)]
    have : l.countP p ≤ (x :: l).countP p:=List.Sublist.countP_le (List.sublist_cons_self x l)
    omega
open Classical in
noncomputable def far (succ : Int → List Int) (V g : List Int) : Nat:=V.countP fun x => decide (∃ y ∈ g,Rch succ y x)
theorem ready_some (hs : ∀ x ∈ V,∀ u ∈ succ x,u ∈ V) (h : OrH succ V come gs) : ∀ (n : Nat) (g : List Int),g ∈ gs → far succ V g ≤ n → ∃ k ∈ gs,rdy succ come k = true:=by
 intro n
 induction n with
 | zero =>
  intro g hg hn
  exfalso
  have h1:=h.grp g hg
  obtain ⟨x,hx⟩ : ∃ x,x ∈ g:=List.exists_mem_of_ne_nil _ h1.ne
  have : 0 < far succ V g:=by
   unfold far
   rw [List.countP_pos_iff]
   exact ⟨x,h1.sub x hx,by simpa using ⟨x,hx,.here⟩⟩
  omega
 | succ n ih =>
  intro g hg hn
  by_cases hr : rdy succ come g = true
  ·exact ⟨g,hg,hr⟩
  ·rw [rdy_iff] at hr
   have h1:=h.grp g hg
   have : ∃ a ∈ g,∃ u ∈ succ a,come u = false ∧ u ∉ g:=by
    apply Classical.byContradiction
    intro hc
    refine hr fun x hx u hu => ?_
    by_cases e : u ∈ g
    ·exact .inr e
    ·left
     cases hcu : come u with
     | true => rfl
     | false => exact absurd ⟨x,hx,u,hu,hcu,e⟩ hc
   obtain ⟨a,ha,u,hu,hcu,hug⟩:=this
   obtain ⟨k,hk,huk⟩ : ∃ k ∈ gs,u ∈ k:=(h.cov u (hs a (h1.sub a ha) u hu)).resolve_left (by rw [hcu];simp)
   have h2:=h.grp k hk
   have hne : g ≠ k:=fun e => hug (e ▸ huk)
   have hd:=pw_mem (fun _ _ => Dj.symm) h.dj g hg k hk hne
   refine ih k hk ?_
   have : far succ V k < far succ V g:=by
    unfold far
    refine countP_lt (h1.sub a ha) (fun x hx => ?_) ?_ ?_
    ·simp only [decide_eq_true_eq] at hx ⊢
     obtain ⟨y,hy,hyx⟩:=hx
     exact ⟨a,ha,.step hu ((((h2.mem u huk y).1 hy).1).trans hyx)⟩
    ·simp only [decide_eq_true_eq]
     exact ⟨a,ha,.here⟩
    ·simp only [decide_eq_false_iff_not]
     rintro ⟨y,hy,hya⟩
     have h3 : y ∈ g:=(h1.mem a ha y).2 ⟨.step hu (((h2.mem u huk y).1 hy).1),hya⟩
     exact hd y h3 hy
   omega
theorem putC_true {g : List Int} {x : Int} : putC come g x = true ↔ come x = true ∨ x ∈ g:=by
 unfold putC
 rw [Bool.or_eq_true,decide_eq_true_eq]
theorem OrH.next (h : OrH succ V come gs) {k : Nat} (hk : k < gs.length) (hr : rdy succ come gs[k] = true) : OrH succ V (putC come gs[k]) (gs.eraseIdx k):=by
 have hp : (gs[k] :: gs.eraseIdx k).Perm gs:=erase_perm hk
 have hm : ∀ g,g ∈ gs.eraseIdx k → g ∈ gs:=fun g hg => List.mem_of_mem_eraseIdx hg
 have hdj : (gs[k] :: gs.eraseIdx k).Pairwise Dj:=(hp.pairwise_iff (fun h => Dj.symm h)).2 h.dj
 rw [List.pairwise_cons] at hdj
 refine ⟨fun g hg => h.grp g (hm g hg),hdj.2,fun x hx => ?_,fun g hg x hx => ?_,fun x hx u hu => ?_⟩
 ·rcases h.cov x hx with h' | ⟨g,hg,hxg⟩
  ·exact .inl (putC_true.2 (.inl h'))
  ·rcases List.mem_cons.1 (hp.mem_iff.2 hg) with rfl | h'
   ·exact .inl (putC_true.2 (.inr hxg))
   ·exact .inr ⟨g,h',hxg⟩
 ·rw [← Bool.not_eq_true,putC_true,not_or,Bool.not_eq_true]
  exact ⟨h.cd g (hm g hg) x hx,fun h' => hdj.1 g hg x h' hx⟩
 ·rw [putC_true] at hx ⊢
  rcases hx with hx | hx
  ·exact .inl (h.cl x hx u hu)
  ·exact rdy_iff.1 hr x hx u hu
theorem ordT_spec (hs : ∀ x ∈ V,∀ u ∈ succ x,u ∈ V) : ∀ (n : Nat) (come : Int → Bool) (gs : List (List Int)),OrH succ V come gs → gs.length ≤ n → (ordT succ n come gs).Perm gs ∧ Ordr succ come (ordT succ n come gs)
 | 0,come,gs,h,hn => by
  obtain rfl : gs = []:=List.length_eq_zero_iff.1 (by omega)
  exact ⟨.refl _,trivial⟩
 | n + 1,come,gs,h,hn => by
  unfold ordT
  cases hf : gs.findIdx? (rdy succ come) with
  | none =>
   rw [List.findIdx?_eq_none_iff] at hf
   cases gs with
   | nil => exact ⟨.refl _,trivial⟩
   | cons g l =>
    obtain ⟨k,hk,hr⟩:=ready_some hs h _ g List.mem_cons_self (Nat.le_refl _)
    rw [hf k hk] at hr
    cases hr
  | some k =>
   rw [List.findIdx?_eq_some_iff_getElem] at hf
   obtain ⟨hk,hr,_⟩:=hf
   have e : gs.getD k [] = gs[k]:=by rw [List.getD_eq_getElem?_getD,List.getElem?_eq_getElem hk];rfl
   simp only [e]
   obtain ⟨h1,h2⟩:=ordT_spec hs n _ _ (h.next hk hr) (by rw [List.length_eraseIdx_of_lt hk];omega)
   exact ⟨(h1.cons _).trans (erase_perm hk),hr,h2⟩
theorem sortG_perm (gs : List (List Int)) : (sortG gs).Perm gs:=List.mergeSort_perm _ _
theorem groupsT_spec (hV : V.Nodup) (hs : ∀ x ∈ V,∀ u ∈ succ x,u ∈ V) : (∀ g ∈ groupsT succ V,Grp succ V g) ∧ (groupsT succ V).Pairwise Dj ∧ (∀ x,x ∈ V ↔ ∃ g ∈ groupsT succ V,x ∈ g) ∧ Ordr succ (fun _ => false) (groupsT succ V):=by
 obtain ⟨h1,h2,h3⟩:=comps_groups hV hs
 have hp:=sortG_perm (comps succ V.length V tj0).grs
 have hO : OrH succ V (fun _ => false) (sortG (comps succ V.length V tj0).grs):=by
  refine ⟨fun g hg => h1 g (hp.mem_iff.1 hg),(hp.pairwise_iff (fun h => Dj.symm h)).2 h2,fun x hx => .inr ?_,fun _ _ _ _ => rfl,fun _ h => by cases h⟩
  obtain ⟨g,hg,hx⟩:=(h3 x).1 hx
  exact ⟨g,hp.mem_iff.2 hg,hx⟩
 obtain ⟨k1,k2⟩:=ordT_spec hs _ _ _ hO (by rw [hp.length_eq];exact Nat.le_refl _)
 refine ⟨fun g hg => hO.grp g (k1.mem_iff.1 hg),(k1.pairwise_iff (fun h => Dj.symm h)).2 hO.dj,fun x => ?_,k2⟩
 rw [h3 x]
 constructor
 ·rintro ⟨g,hg,hx⟩
  exact ⟨g,k1.mem_iff.2 (hp.mem_iff.2 hg),hx⟩
 ·rintro ⟨g,hg,hx⟩
  exact ⟨g,hp.mem_iff.1 (k1.mem_iff.1 hg),hx⟩
end
end Go.Proofs.Scc
/- infer.ordered: its closures, IndexFunc -/
namespace Go.Proofs.YtmmecapgnmlaiaaGreatDoor
open Go Go.RowKit Go.Proofs Go.Proofs.Scc Go.Sort
structure OrF (used : Int → List Int) (come : Int → Bool) (p1 p2 ub cb : Nat) (w : World) : Prop where
 c1 : w.cell? ⟨p1,0,none⟩ = some (.map (some ub))
 c2 : w.cell? ⟨p2,0,none⟩ = some (.map (some cb))
 us : ∃ N g B,MapA intK w ub N g ∧ ∀ a,∃ A c,(g a).getD (.slice none 0 0) = .slice A (used a).length c ∧ IntsA w B A c (used a)
 co : ∃ N,MapA intK w cb N (fun a => if come a = true then some (.bool true) else none)
theorem OrF.looks {used : Int → List Int} {come : Int → Bool} {p1 p2 ub cb : Nat} {w : World} (h : OrF used come p1 p2 ub cb w) {a : Int} (ha : intK.ok a) :
  (Instr.lookup 79 (.map (some cb)) (.int .i64 a) false).run Tryz.prog w = .ok (.bool (come a)) w ∧ ∃ A c B,(Instr.lookup 77 (.map (some ub)) (.int .i64 a) false).run Tryz.prog w = .ok (.slice A (used a).length c) w ∧ IntsA w B A c (used a):=by
 constructor
 ·obtain ⟨N,hm⟩:=h.co
  have:=hm.look false (t:=79) Tryz.undBoolM (zeroBoolI w) ha
  simp only [Bool.false_eq_true,if_false,intK] at this
  have e : (if come a = true then some (Value.bool true) else none).getD (.bool false) = .bool (come a):=by cases come a <;> rfl
  rw [e] at this
  exact this
 ·obtain ⟨N,g,B,hm,hg⟩:=h.us
  have:=hm.look false (t:=77) Tryz.undIntsM (zeroInts w) ha
  simp only [Bool.false_eq_true,if_false,intK] at this
  obtain ⟨A,c,e,hi⟩:=hg a
  rw [e] at this
  exact ⟨A,c,B,this,hi⟩
set_option maxRecDepth 100000 in
set_option maxHeartbeats 4000000 in
theorem ordered2_any {used : Int → List Int} {come : Int → Bool} {p1 p2 ub cb B : Nat} {w : World} (h : OrF used come p1 p2 ub cb w) {A : Option Addr} {c : Nat} {g : List Int} (hg : IntsA w B A c g) (hok : ∀ a ∈ g,intK.ok a ∧ (used a).length ≤ 1000000 ∧ ∀ u ∈ used a,intK.ok u) (hgl : g.length ≤ 1000000) :
  Calls Tryz.prog 79 #[.slice A g.length c,.pointer (some ⟨p1,0,none⟩),.pointer (some ⟨p2,0,none⟩)] w fun e w' => e = .returned (.bool (rdy used come g)) ∧ w' = w:=by
 have h0:=h
 obtain ⟨c1,c2,_,_⟩:=h0
 obtain ⟨R,HR⟩ : ∃ R,Hid (rdy used come g = R):=⟨_,Lib.hid rfl⟩
 obtain ⟨N,HN⟩ : ∃ N,Hid (g.length = N):=⟨_,Lib.hid rfl⟩
 have HH:=Lib.hid (And.intro h (And.intro hg hok))
 rw [HR.out]
 rw [HN.out] at hgl ⊢
 clear h hg hok
 go_enter Tryz.func79,Tryz.ntmps79
 go_wp2
 go_loopg [11] N (fun k ct wr => ∃ j : Nat,k = N - j ∧ j ≤ N ∧ ct = .int .i64 j ∧ wr = w ∧ R = ((g.drop j).all fun id => rdyU come g (used id)))
 case atStart => exact ⟨0,rfl,Nat.zero_le _,rfl,rfl,HR.out.symm⟩
 case round =>
  obtain ⟨j,hk,hj,rfl,rfl,hR⟩:=hrel
  by_cases hlt : j < N
  ·obtain ⟨a,ha⟩ : ∃ a,g[j]? = some a:=⟨_,List.getElem?_eq_getElem (by rw [HN.out];exact hlt)⟩
   obtain ⟨gb,o,rfl,hgB,hgc⟩:=HH.out.2.1.2.2 (by intro e;rw [e] at ha;simp at ha)
   have eg:=hgc j a ha
   have hdr : g.drop j = a :: g.drop (j + 1):=by
    have h1:=(List.getElem?_eq_some_iff.1 ha)
    rw [List.drop_eq_getElem_cons h1.1,h1.2]
   rw [hdr,List.all_cons] at hR
   obtain ⟨oka,ula,oku⟩:=HH.out.2.2 a (List.mem_of_getElem? ha)
   obtain ⟨_,uA,uc,uB,lku,hiu⟩:=HH.out.1.looks oka
   obtain ⟨M,HM⟩ : ∃ M,Hid ((used a).length = M):=⟨_,Lib.hid rfl⟩
   rw [HM.out] at lku ula
   have HJ:=Lib.hid (And.intro hk (And.intro hR (And.intro hiu oku)))
   clear hk hR hiu oku hgc ha hdr
   go_wp2
   go_loopg [19] M (fun k ct wr' => ∃ q : Nat,k = M - q ∧ q ≤ M ∧ ct = .int .i64 q ∧ wr' = wr ∧ rdyU come g (used a) = rdyU come g ((used a).drop q))
   case atStart => exact ⟨0,rfl,Nat.zero_le _,rfl,rfl,rfl⟩
   case round =>
    obtain ⟨q,hk,hq,rfl,rfl,hU⟩:=hrel
    by_cases hlq : q < M
    ·obtain ⟨u,hu⟩ : ∃ u,(used a)[q]? = some u:=⟨_,List.getElem?_eq_getElem (by rw [HM.out];exact hlq)⟩
     obtain ⟨gb2,o2,rfl,hgB2,hgc2⟩:=HJ.out.2.2.1.2.2 (by intro e;rw [e] at hu;simp at hu)
     have eu:=hgc2 q u hu
     have hdu : (used a).drop q = u :: (used a).drop (q + 1):=by
      have h1:=(List.getElem?_eq_some_iff.1 hu)
      rw [List.drop_eq_getElem_cons h1.1,h1.2]
     rw [hdu] at hU
     obtain ⟨lkc,_⟩:=HH.out.1.looks (HJ.out.2.2.2 u (List.mem_of_getElem? hu))
     have HC:=Lib.hid (slcHasI_any (x:=u) HH.out.2.1)
     rw [HN.out] at HC
     have HU:=Lib.hid (And.intro hk (show rdyU come g (used a) = ((come u || decide (u ∈ g)) && rdyU come g ((used a).drop (q + 1))) from hU))
     clear hk hU hdu hgc2 hu
     cases hcu : come u with
     | true =>
      rw [hcu] at lkc HU
      go_wp2
      go_roundg (M - (q + 1))
      case measure => have:=HU.out.1;omega
      case rel => exact ⟨q + 1,rfl,by omega,by go_num,rfl,by rw [HU.out.2];simp⟩
     | false =>
      rw [hcu] at lkc HU
      cases hdg : decide (u ∈ g) with
      | true =>
       rw [hdg] at HC HU
       go_wp2_with (go_at_call 80;(with_reducible refine Calls.mono HC.out ?_);rintro e w' ⟨rfl,rfl⟩)
       go_roundg (M - (q + 1))
       case measure => have:=HU.out.1;omega
       case rel => exact ⟨q + 1,rfl,by omega,by go_num,rfl,by rw [HU.out.2];simp⟩
      | false =>
       rw [hdg] at HC HU
       have HV:=Lib.hid (show R = false by rw [HJ.out.2.1,HU.out.2];rfl)
       go_wp2_with (go_at_call 80;(with_reducible refine Calls.mono HC.out ?_);rintro e w' ⟨rfl,rfl⟩)
       go_ret
       exact ⟨by rw [HV.out];rfl,rfl⟩
    ·obtain rfl : q = M:=by omega
     have i1 : decide ((q : Int) < (q : Int)) = false:=decide_eq_false (by omega)
     have i2 : decide (q < q) = false:=decide_eq_false (by omega)
     rw [List.drop_of_length_le (by rw [HM.out];exact Nat.le_refl _)] at hU
     have HU:=Lib.hid (show R = ((g.drop (j + 1)).all fun id => rdyU come g (used id)) by rw [HJ.out.2.1,hU];rfl)
     clear hU hk
     go_wp2
     go_roundg (N - (j + 1))
     case measure => have:=HJ.out.1;omega
     case rel => exact ⟨j + 1,rfl,by omega,by go_num,rfl,HU.out⟩
  ·obtain rfl : j = N:=by omega
   have i1 : decide ((j : Int) < (j : Int)) = false:=decide_eq_false (by omega)
   have i2 : decide (j < j) = false:=decide_eq_false (by omega)
   rw [List.drop_of_length_le (by rw [HN.out];exact Nat.le_refl _)] at hR
   have HV:=Lib.hid (show R = true from hR)
   clear hR hk
   go_wp2
   go_ret
   exact ⟨by rw [HV.out];rfl,rfl⟩
end Go.Proofs.YtmmecapgnmlaiaaGreatDoor
