/- What came in bounds the number of nodes of the expressions in it -/
import Derived.Test.YtnfndgmlnoeelaaGreatDoorZln
import Derived.Test.YtnfndgmlnoeelaaGreatDoorRows
import Derived.Test.YtnfndgmlnoeelaaGreatDoorZlu
import Derived.Test.YtnfndgmlnoeelaaGreatDoorCards
import Derived.Test.YtnfndgmlnoeelaaGreatDoorTie
import Derived.WalkKit
import Derived.ProofKit
import Derived.OpenShut
import Derived.Deep.DeepHandedRow
namespace Go.Proofs.YtnfndgmlnoeelaaGreatDoor
open Go.RowKit Go.Proofs Go.ChangeShapes Go.WideShapes Go.Joins
section
variable {H : Type} {enc : TypeId × Value → H} {W : World}
end
end Go.Proofs.YtnfndgmlnoeelaaGreatDoor
/- An expression that came in -/
namespace Go.Proofs.YtnfndgmlnoeelaaGreatDoor
open Go.RowKit Go.Proofs Go.ChangeShapes Go.WideShapes Go.Joins
section
variable {H : Type} {enc : TypeId × Value → H} {W : World}
end
end Go.Proofs.YtnfndgmlnoeelaaGreatDoor
/- A number of steps and a seed that came in as data -/
namespace Go.Proofs.YtnfndgmlnoeelaaGreatDoor
open Go.RowKit Go.Proofs Go.ChangeShapes Go.WideShapes Go.Joins

theorem Tryz.cellsLimit50 : Tryz.prog.cellsOf 45 = 2:=by kernel_rfl
section
variable {H : Type} {enc : TypeId × Value → H} {W : World}
set_option maxRecDepth 100000 in
theorem open_limit {b0 : Nat} {v : Value} {d : DataW H} {p : List MemPlace} (hv : Value.okWide Tryz.prog W .any b0 45 v) (h : DataW.Trod enc Tryz.prog W 0 (fun _ => true) true 45 v d p) :
  ∃ a z : Int,v = .agg #[.int .u16 a,.int .u64 z] ∧ 0 ≤ a ∧ a ≤ 65535:=by
 obtain ⟨c0,c1,y0,y1,n,rfl,_,_,h0,h1⟩:=open_agg2 Tryz.underlying45 (by kernel_rfl) Tryz.cellsLimit50 hv h
 obtain ⟨a,e0,_,hw⟩:=DataW.trod_int Tryz.underlying25 h0
 obtain ⟨z,e1,_,_⟩:=DataW.trod_int Tryz.underlying26 h1
 simp only [List.cons.injEq,and_true] at e0 e1
 subst e0 e1
 refine ⟨a,z,rfl,?_⟩
 simp only [Lit.wf,Bool.and_eq_true,decide_eq_true_eq] at hw
 exact ⟨hw.1,hw.2⟩
end
end Go.Proofs.YtnfndgmlnoeelaaGreatDoor
/- The shell of the laws over a module: from a walk that answers true to the row and the card -/
namespace Go.Proofs.YtnfndgmlnoeelaaGreatDoor
open Go.ChangeShapes Go.WideShapes Go.ChangeAt Go.RowKit
theorem Tryz.own : ownKnob Tryz.prog.godebug = none:=by kernel_rfl
theorem Tryz.laidOut : laidOutB Tryz.prog = true:=by kernel_rfl
section
variable {H : Type} {enc : TypeId × Value → H}
theorem post_below {P : Program} {f : Func} {s : ChangeSpec} {apart fresh handsOn again : Bool} {W W' : World} {args : Array Value} {v : Value} {ds gs : List (DataW H)} {before pa pv : List MemPlace}
  (hW : DataW.Whole enc P f.params.toList s.vars apart W args.toList ds gs before)
  (hres : ∀ (b : Nat) (sp : Nat → Bool) (hd : Bool),DataW.TrodAll enc P W' b sp hd f.resultTypes.toList (v.resultList f.resultTypes.size) (s.fn H (ds ++ gs)).results [])
  (hargs : ∀ sp : Nat → Bool,(∀ p ∈ before,sp p.block = true) → DataW.TrodAll enc P W' 0 sp true f.params.toList args.toList (s.fn H (ds ++ gs)).args pa)
  (hvars : ∀ sp : Nat → Bool,(∀ p ∈ before,sp p.block = true) → DataW.TrodVars enc P W' sp s.vars (s.fn H (ds ++ gs)).vars pv)
  (hps : before = pa ++ pv) (hb : Below W.heap.size W W')
  (hok : ∀ (j : Nat) (t : TypeId) (r : Value),f.resultTypes[j]? = some t → (v.resultList f.resultTypes.size)[j]? = some r → Value.okWide P W' .any 0 t r) :
  s.post enc P f apart fresh handsOn again W args v W':=by
 have hlt : ∀ p ∈ before,p.block < W.heap.size:=fun p hp => hW.lt p hp
 have hold : ∀ p ∈ before,(fun b => decide (b < W.heap.size)) p.block = true:=fun p hp => by simpa using hlt p hp
 refine ⟨ds,gs,before,[],pa,pv,hW,hres _ _ _,hargs _ hold,hvars _ hold,World.keptBut_mono (fun p hp => ⟨hp,?_⟩) (hb.frame (· ∈ before)),fun _ => ?_⟩
 ·rw [hps,List.mem_append] at hp
  exact Or.inr hp
 ·obtain ⟨_,_,_,_,_,hz,hn⟩:=hW
  refine ⟨hok,_,_,([] ++ pa) ++ pv,⟨[] ++ pa,pv,trodAll_append (hargs _ (fun _ _ => rfl)) (hres _ _ _),hvars _ (fun _ _ => rfl),rfl,?_,?_⟩,?_⟩
  ·intro b off hp
   have hin : MemPlace.cell b off ∈ before:=by rw [hps];simpa using hp
   rw [hb.frozen (hlt _ hin)]
   exact hz b off hin
  ·intro ha
   have:=hn ha
   rw [hps] at this
   simpa using this
  ·intro p hp _
   rw [hps]
   simpa using hp
theorem trodAll_stays {W W' : World} {sp' : Nat → Bool} : ∀ {ts : List TypeId} {vs : List Value} {ds : List (DataW H)} {ps : List MemPlace},(∀ t ∈ ts,Tryz.prog.readableRec t = true ∧ t < Tryz.prog.types.size) →
  DataW.TrodAll enc Tryz.prog W 0 (fun _ => true) true ts vs ds ps → (∀ p ∈ ps,W.sameAt W' p) → (∀ p ∈ ps,sp' p.block = true) → DataW.TrodAll enc Tryz.prog W' 0 sp' true ts vs ds ps
 | [],[],[],_,_,h,_,_ => h
 | t :: ts,v :: vs,d :: ds,_,hT,⟨p,q,h1,h2,e⟩,hsame,hs => ⟨p,q,
   WideElems.Trod_stays Tryz.laidOut (hT t (List.mem_cons_self ..)).1 (hT t (List.mem_cons_self ..)).2 h1 (fun x hx => hsame x (by rw [e];exact List.mem_append_left _ hx)) (fun x hx => hs x (by rw [e];exact List.mem_append_left _ hx)),
   trodAll_stays (fun t ht => hT t (List.mem_cons_of_mem _ ht)) h2 (fun x hx => hsame x (by rw [e];exact List.mem_append_right _ hx)) (fun x hx => hs x (by rw [e];exact List.mem_append_right _ hx)),e⟩
set_option maxRecDepth 100000 in
theorem post_true {f : Func} {s : ChangeSpec} {apart fresh handsOn again : Bool} {W W' : World} {args : Array Value} {ds gs : List (DataW H)} {before : List MemPlace}
  (hW : DataW.Whole enc Tryz.prog f.params.toList s.vars apart W args.toList ds gs before) (hv : s.vars = []) (hrt : f.resultTypes = #[4])
  (hfn : s.fn H ds = { results:=[.lit (.bool true)],args:=ds }) (hts : ∀ t ∈ f.params.toList,Tryz.prog.readableRec t = true ∧ t < Tryz.prog.types.size) (hb : Below W.heap.size W W') :
  s.post enc Tryz.prog f apart fresh handsOn again W args (.bool true) W':=by
 have hW':=hW
 obtain ⟨p,q,hA,hV,rfl,_,_⟩:=hW
 rw [hv] at hV
 obtain ⟨rfl,rfl⟩:=trodVars_none hV
 refine post_below (pa:=p) (pv:=[]) hW' ?_ ?_ ?_ rfl hb ?_
 ·intro b sp hd
  rw [hrt,List.append_nil,hfn]
  exact trodAll_mk1 (shut_bool Tryz.underlying4 true)
 ·intro sp hsp
  rw [List.append_nil,hfn]
  exact trodAll_stays hts hA (fun x hx => hb.same (hW'.lt x (by simpa using hx))) (fun x hx => hsp x (by simpa using hx))
 ·intro sp _
  rw [hv,List.append_nil,hfn]
  exact rfl
 ·exact ok_one hrt rfl (okWide_bool_mk Tryz.underlying4 true)
end
noncomputable def laidWorld (os : Os) : World:=
 let w0:=World.holding Tryz.prog os ⟨#[],#[],[]⟩
 { w0 with heap:=(w0.heap.modify 1 fun
   | .cells _ t frozen => .cells (Go.Pinned.utf8FirstZ.map fun n => Value.int .u8 (Int.ofNat n)).toArray t frozen
   | o => o).modify 2 fun
   | .cells _ t frozen => .cells #[.int .u8 128,.int .u8 191,.int .u8 160,.int .u8 191,.int .u8 128,.int .u8 159,.int .u8 144,.int .u8 191,.int .u8 128,.int .u8 143,.int .u8 0,.int .u8 0,.int .u8 0,.int .u8 0,.int .u8 0,.int .u8 0,.int .u8 0,.int .u8 0,.int .u8 0,.int .u8 0,.int .u8 0,.int .u8 0,.int .u8 0,.int .u8 0,.int .u8 0,.int .u8 0,.int .u8 0,.int .u8 0,.int .u8 0,.int .u8 0,.int .u8 0,.int .u8 0] t frozen
   | o => o }
end Go.Proofs.YtnfndgmlnoeelaaGreatDoor
