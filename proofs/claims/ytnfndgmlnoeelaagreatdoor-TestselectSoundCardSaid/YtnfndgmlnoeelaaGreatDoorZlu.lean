/- A list of modules that came in, opened; a name that came in -/
import Derived.Test.YtnfndgmlnoeelaaGreatDoorZln
import Derived.Test.YtnfndgmlnoeelaaGreatDoorZlt
namespace Go.Proofs.YtnfndgmlnoeelaaGreatDoor
open Go.RowKit Go.Proofs Go.ChangeShapes Go.WideShapes Go.Joins
def Mo.Str (m : Mo) : Prop:=m.label.size ≤ maxLen ∧ (∀ s ∈ m.uses,s.size ≤ maxLen) ∧ ∀ d ∈ m.ds,Dc.Str d ∧ (Lit.int .i64 d.id).wf = true
section
variable {H : Type} {enc : TypeId × Value → H} {W : World}
theorem trod_declW {fuel : Nat} {cs : List Value} {x : DataW H × List MemPlace} (h : DataW.trod enc Tryz.prog W 0 (fun _ => true) true fuel 62 cs = some x) (hcs : cs.length = 11) :
  ∃ d : Dc,cs = d.cells.toList ∧ d.Ok W W.heap.size ∧ d.Str ∧ (Lit.int .i64 d.id).wf = true:=by
 obtain ⟨d,hd,hok,hst⟩:=trod_decl h hcs
 refine ⟨d,hd,hok,hst,?_⟩
 obtain ⟨_,_,_,h0⟩:=trod_fields Tryz.underlying62 h 0 _ rfl 3 0 1 rfl rfl Tryz.cellsInt
 obtain ⟨id,e0,_,hw⟩:=DataW.trod_int Tryz.underlying3 h0
 rw [hd] at e0
 simp only [List.drop_zero,Dc.cells,List.take_succ_cons,List.take_zero,List.cons.injEq,and_true,Value.int.injEq,true_and] at e0
 rw [e0]
 exact hw
theorem open_declsW {fuel : Nat} {v : Value} {x : DataW H × List MemPlace} (h : DataW.trod enc Tryz.prog W 0 (fun _ => true) true fuel 56 [v] = some x) :
  ∃ A l c,v = .slice A (List.length l) c ∧ SlD W W.heap.size A c l ∧ ∀ d ∈ l,Dc.Str d ∧ (Lit.int .i64 d.id).wf = true:=by
 rcases DataW.trod_slice Tryz.underlying56 h with ⟨h0,_⟩ | ⟨a,len,cap,elems,rest,n,rfl,h0,_,_,hl,hm,hlen,hel,_,_⟩
 ·simp only [List.cons.injEq,and_true] at h0
  exact ⟨none,[],0,h0,⟨by simp,by simp [maxLen],fun h => absurd rfl h⟩,by simp⟩
 ·simp only [List.cons.injEq,and_true] at h0
  subst h0
  rw [Tryz.cellsDecl] at hel
  have hall : ∀ i,i < len → ∃ d : Dc,(∀ q v,d.cells[q]? = some v → W.cell? ⟨a.block,a.off + i * 11 + q,none⟩ = some v) ∧ d.Ok W W.heap.size ∧ d.Str ∧ (Lit.int .i64 d.id).wf = true:=by
   intro i hi
   have h1:=(hel i hi).trans (List.getElem?_eq_getElem (by omega))
   obtain ⟨cs,hc,h2⟩:=Option.bind_eq_some_iff.1 h1
   obtain ⟨_,hcl,hcell⟩:=World.cells?_some hc
   obtain ⟨d,hd,hok,hst⟩:=trod_declW h2 hcl
   refine ⟨d,fun q v hq => ?_,hok,hst⟩
   have hq' : q < 11:=(Array.getElem?_eq_some_iff.1 hq).1
   have h3:=hcell q hq'
   rw [hd,Array.getElem?_toList,hq,add_add'] at h3
   rw [add_none h3] at h3
   rw [Nat.add_assoc]
   exact h3
  obtain ⟨l,hll,hP⟩:=list_of len hall
  refine ⟨some a,l,cap,by rw [hll],⟨by omega,hm,fun hne => ?_⟩,fun d hd => ?_⟩
  ·have hpos : 0 < len:=by
    rcases Nat.eq_zero_or_pos len with h | h
    ·rw [h] at hll;exact absurd (List.length_eq_zero_iff.1 hll) hne
    ·exact h
   obtain ⟨d0,h0,_⟩:=hall 0 hpos
   have h00:=h0 0 _ rfl
   have h1:=(hel 0 hpos).trans (List.getElem?_eq_getElem (by omega))
   obtain ⟨cs,hc,h2⟩:=Option.bind_eq_some_iff.1 h1
   obtain ⟨_,hcl,hcell⟩:=World.cells?_some hc
   have h3:=hcell 0 (by omega)
   rw [add_add',List.getElem?_eq_getElem (by omega)] at h3
   have h4:=add_none h3
   simp [Addr.add] at h4
   exact ⟨a.block,a.off,by rw [← h4],World.block_lt_of_cell? W ⟨a.block,a.off + 0 * 11 + 0,none⟩ h00,fun j x hj => ⟨(hP j x hj).1,(hP j x hj).2.1⟩⟩
  ·obtain ⟨j,hj⟩:=List.getElem?_of_mem hd
   exact (hP j d hj).2.2
theorem trod_module {fuel : Nat} {cs : List Value} {x : DataW H × List MemPlace} (h : DataW.trod enc Tryz.prog W 0 (fun _ => true) true fuel 58 cs = some x) (hcs : cs.length = 3) :
  ∃ m : Mo,cs = m.cells.toList ∧ m.Ok W W.heap.size ∧ m.Str:=by
 match cs,hcs with
 | [c0,c1,c2],_ =>
  obtain ⟨_,_,_,h0⟩:=trod_fields Tryz.underlying58 h 0 _ rfl 9 0 1 rfl rfl Tryz.cellsString
  obtain ⟨_,_,_,h1⟩:=trod_fields Tryz.underlying58 h 1 _ rfl 55 1 1 rfl rfl Tryz.cellsStrings
  obtain ⟨_,_,_,h2⟩:=trod_fields Tryz.underlying58 h 2 _ rfl 56 2 1 rfl rfl Tryz.cellsDecls
  simp only [List.drop_succ_cons,List.drop_zero,List.take_succ_cons,List.take_zero] at h0 h1 h2
  obtain ⟨label,e0,_,hl⟩:=DataW.trod_string Tryz.underlying9 h0
  obtain ⟨uA,uses,uc,e1,hu,hus⟩:=open_strs h1
  obtain ⟨dA,decls,dc,e2,hd,hds⟩:=open_declsW h2
  simp only [List.cons.injEq,and_true] at e0
  subst e0 e1 e2
  exact ⟨⟨label,uA,uc,uses,dA,dc,decls⟩,rfl,⟨hu,hd⟩,hl,hus,hds⟩
theorem open_mods {fuel : Nat} {v : Value} {x : DataW H × List MemPlace} (h : DataW.trod enc Tryz.prog W 0 (fun _ => true) true fuel 22 [v] = some x) :
  ∃ A l c,v = .slice A (List.length l) c ∧ SlM W W.heap.size A c l ∧ ∀ m ∈ l,Mo.Str m:=by
 rcases DataW.trod_slice Tryz.underlying22 h with ⟨h0,_⟩ | ⟨a,len,cap,elems,rest,n,rfl,h0,_,_,hl,hm,hlen,hel,_,_⟩
 ·simp only [List.cons.injEq,and_true] at h0
  exact ⟨none,[],0,h0,⟨by simp,by simp [maxLen],fun h => absurd rfl h⟩,by simp⟩
 ·simp only [List.cons.injEq,and_true] at h0
  subst h0
  rw [Tryz.cellsModule] at hel
  have hall : ∀ i,i < len → ∃ d : Mo,(∀ q v,d.cells[q]? = some v → W.cell? ⟨a.block,a.off + i * 3 + q,none⟩ = some v) ∧ d.Ok W W.heap.size ∧ d.Str:=by
   intro i hi
   have h1:=(hel i hi).trans (List.getElem?_eq_getElem (by omega))
   obtain ⟨cs,hc,h2⟩:=Option.bind_eq_some_iff.1 h1
   obtain ⟨_,hcl,hcell⟩:=World.cells?_some hc
   obtain ⟨d,hd,hok,hst⟩:=trod_module h2 hcl
   refine ⟨d,fun q v hq => ?_,hok,hst⟩
   have hq' : q < 3:=(Array.getElem?_eq_some_iff.1 hq).1
   have h3:=hcell q hq'
   rw [hd,Array.getElem?_toList,hq,add_add'] at h3
   rw [add_none h3] at h3
   rw [Nat.add_assoc]
   exact h3
  obtain ⟨l,hll,hP⟩:=list_of len hall
  refine ⟨some a,l,cap,by rw [hll],⟨by omega,hm,fun hne => ?_⟩,fun d hd => ?_⟩
  ·have hpos : 0 < len:=by
    rcases Nat.eq_zero_or_pos len with h | h
    ·rw [h] at hll;exact absurd (List.length_eq_zero_iff.1 hll) hne
    ·exact h
   obtain ⟨d0,h0,_⟩:=hall 0 hpos
   have h00:=h0 0 _ rfl
   have h1:=(hel 0 hpos).trans (List.getElem?_eq_getElem (by omega))
   obtain ⟨cs,hc,h2⟩:=Option.bind_eq_some_iff.1 h1
   obtain ⟨_,hcl,hcell⟩:=World.cells?_some hc
   have h3:=hcell 0 (by omega)
   rw [add_add',List.getElem?_eq_getElem (by omega)] at h3
   have h4:=add_none h3
   simp [Addr.add] at h4
   exact ⟨a.block,a.off,by rw [← h4],World.block_lt_of_cell? W ⟨a.block,a.off + 0 * 3 + 0,none⟩ h00,fun j x hj => ⟨(hP j x hj).1,(hP j x hj).2.1⟩⟩
  ·obtain ⟨j,hj⟩:=List.getElem?_of_mem hd
   exact (hP j d hj).2.2
theorem mow_of {l : List Mo} (h : ∀ m ∈ l,Mo.Str m) : MoW l:=fun m hm => ⟨(h m hm).1,fun d hd => ((h m hm).2.2 d hd).2⟩
set_option maxRecDepth 100000 in
theorem open_name {b0 : Nat} {v : Value} {d : DataW H} {p : List MemPlace} (hv : Value.okWide Tryz.prog W .any b0 24 v) (h : DataW.Trod enc Tryz.prog W 0 (fun _ => true) true 24 v d p) :
  ∃ n : ByteArray × Int,v = .agg #[.string n.1,.int .i64 n.2] ∧ NOk n:=by
 obtain ⟨c0,c1,y0,y1,n,rfl,_,_,h0,h1⟩:=open_agg2 Tryz.underlying24 (by kernel_rfl) Tryz.cellsName hv h
 obtain ⟨s,e0,_,hl⟩:=DataW.trod_string Tryz.underlying9 h0
 obtain ⟨i,e1,_,hw⟩:=DataW.trod_int Tryz.underlying3 h1
 simp only [List.cons.injEq,and_true] at e0 e1
 subst e0 e1
 exact ⟨(s,i),rfl,hl,hw⟩
set_option maxRecDepth 100000 in
theorem open_modules {b0 : Nat} {v : Value} {d : DataW H} {p : List MemPlace} (hv : Value.okWide Tryz.prog W .any b0 22 v) (h : DataW.Trod enc Tryz.prog W 0 (fun _ => true) true 22 v d p) :
  ∃ A l c,v = .slice A (List.length l) c ∧ SlM W W.heap.size A c l ∧ ∀ m ∈ l,Mo.Str m:=by
 obtain ⟨a,len,cap,rfl⟩:=okWide_slice Tryz.underlying22 hv
 obtain ⟨fuel,hf⟩:=h
 exact open_mods hf
end
end Go.Proofs.YtnfndgmlnoeelaaGreatDoor
/- depend.load -/
namespace Go.Proofs.YtnfndgmlnoeelaaGreatDoor
open Go.RowKit Go.Proofs Go.Shelf
def loadE (l : List Mo) (n : ByteArray × Int) : Int:=if chkL l ≠ 0 then chkL l else if bodyOf l n = none then 8 else 0
def BodiesAt (l : List Mo) (w : World) (b : Nat) : Prop:=MapA nameK w b 1000000 (fun n => (bodyOf l n).map bodyV)
def LoadP (l : List Mo) (n : ByteArray × Int) (w : World) (e : Ending) (w' : World) : Prop:=
 Below w.heap.size w w' ∧ ((loadE l n ≠ 0 ∧ e = .returned (.tuple #[.map none,.int .i64 (loadE l n)])) ∨ (loadE l n = 0 ∧ ∃ b,e = .returned (.tuple #[.map (some b),.int .i64 0]) ∧ w.heap.size ≤ b ∧ BodiesAt l w' b))
theorem loadE_zero {l : List Mo} {n : ByteArray × Int} (h : loadE l n = 0) : chkL l = 0 ∧ bodyOf l n ≠ none:=by
 unfold loadE at h
 by_cases h1 : chkL l = 0
 ·rw [if_neg (by simpa using h1)] at h
  by_cases h2 : bodyOf l n = none
  ·rw [if_pos h2] at h;omega
  ·exact ⟨h1,h2⟩
 ·rw [if_pos h1] at h;exact absurd h h1
set_option maxRecDepth 100000 in
set_option maxHeartbeats 1000000 in
theorem dLoad_any (l : List Mo) (n : ByteArray × Int) (A : Option Addr) (c : Nat) (w : World) (hl : SlM w w.heap.size A c l) (hn : NOk n) (hw : MoW l) (ht : totD l ≤ 1000000) (hll : l.length ≤ 1000) :
  Calls Tryz.prog 54 #[.slice A l.length c,.agg #[.string n.1,.int .i64 n.2]] w (LoadP l n w):=by
 obtain ⟨W0,hW0⟩ : ∃ W0,w.alloc (.cells #[.string n.1,.int .i64 n.2] 24) = W0:=⟨_,rfl⟩
 have hz0 : W0.heap.size = w.heap.size + 1:=by subst hW0;simp
 have hB0 : Below w.heap.size w W0:=by subst hW0;exact (Below.refl _ _).alloc (Nat.le_refl _) _
 have n0 : W0.cell? ⟨w.heap.size,0,none⟩ = some (.string n.1):=by subst hW0;go_simp
 have n1 : W0.cell? ⟨w.heap.size,1,none⟩ = some (.int .i64 n.2):=by subst hW0;go_simp
 have hl0:=(hl.below hB0).keep (B':=W0.heap.size) (by omega) (fun _ _ => rfl)
 have HC:=Lib.hid (dCheck_any l A c W0 hl0)
 obtain ⟨E,HE⟩ : ∃ Q,Hid (loadE l n = Q):=⟨_,Lib.hid rfl⟩
 have hE:=HE.out
 unfold loadE at hE
 obtain ⟨C,HCC⟩ : ∃ Q,Hid (chkL l = Q):=⟨_,Lib.hid rfl⟩
 rw [HCC.out] at HC hE
 obtain ⟨N,HN⟩ : ∃ Q,Hid (l.length = Q):=⟨_,Lib.hid rfl⟩
 have HLE:=Lib.hid (show LoadP l n w = LoadP l n w from rfl)
 have HX:=Lib.hid (And.intro hl0 (And.intro hn (And.intro hw (And.intro ht (And.intro hll (And.intro hE hB0))))))
 rw [HN.out] at HC ⊢
 have HZ:=Lib.hid hz0
 clear hl hl0 hn hw ht hll hE hB0 hz0
 go_enter Tryz.func54,Tryz.ntmps54
 go_wp2_with fail
 refine HC.out.mono ?_
 rintro e w1 ⟨rfl,hb1⟩
 have HB1:=Lib.hid hb1
 have k0:=(hb1.cell (p:=⟨w.heap.size,0,none⟩) (by have:=HZ.out;simp;omega)).trans n0
 have k1:=(hb1.cell (p:=⟨w.heap.size,1,none⟩) (by have:=HZ.out;simp;omega)).trans n1
 clear hb1 hW0 n0 n1
 by_cases hC : C = 0
 ·have HBO:=Lib.hid (dBodies_any l A c w1 (HX.out.1.keep HB1.out.size fun p hp => HB1.out.cell hp) HX.out.2.2.1 HX.out.2.2.2.1 HX.out.2.2.2.2.1)
  rw [HN.out] at HBO
  subst hC
  go_wp2_with fail
  refine HBO.out.mono ?_
  rintro e w2 ⟨b,rfl,hb,hm,hb2⟩
  have q0:=(hb2.cell (p:=⟨w.heap.size,0,none⟩) (by have:=HZ.out;have:=HB1.out.size;simp;omega)).trans k0
  have q1:=(hb2.cell (p:=⟨w.heap.size,1,none⟩) (by have:=HZ.out;have:=HB1.out.size;simp;omega)).trans k1
  have hlk:=hm.look true Tryz.underlying68 (zeroE_run w2) (a:=n) HX.out.2.1
  simp only [if_true] at hlk
  replace hm:=hm.mono HX.out.2.2.2.1
  have HB2:=Lib.hid (And.intro (HX.out.2.2.2.2.2.2.trans ((HB1.out.trans (hb2.mono HB1.out.size)).mono (by have:=HZ.out;omega))) (And.intro hm (show w.heap.size ≤ b by have:=HB1.out.size;have:=HZ.out;omega)))
  clear hm hb2 hb k0 k1
  have hE:=HX.out.2.2.2.2.2.1
  rw [if_neg (by simp)] at hE
  cases hin : bodyOf l n with
  | some y =>
   rw [hin] at hlk hE
   change Sem.run Tryz.prog (Instr.lookup 68 (.map (some b)) (.agg #[.string n.1,.int .i64 n.2]) true) w2 = .ok (.tuple #[.agg #[.int .i64 y.k,.string y.n,.string y.m,.int .i64 y.i,.int .i64 y.d,.slice y.A y.s.len y.c],.bool true]) w2 at hlk
   have HEE:=Lib.hid (show loadE l n = 0 by rw [HE.out,← hE];simp)
   clear hin hE
   go_wp2
   go_ret2
   have hba:=HB2.out.1.alloc HB2.out.1.size (.cells #[.int .i64 y.k,.string y.n,.string y.m,.int .i64 y.i,.int .i64 y.d,.slice y.A y.s.len y.c] 60)
   exact ⟨hba,.inr ⟨HEE.out,b,rfl,HB2.out.2.2,HB2.out.2.1.keep (Below.heap_alloc _ _ _ HB2.out.2.1.lt)⟩⟩
  | none =>
   rw [hin] at hlk hE
   change Sem.run Tryz.prog (Instr.lookup 68 (.map (some b)) (.agg #[.string n.1,.int .i64 n.2]) true) w2 = .ok (.tuple #[.agg #[.int .i64 0,.string ⟨#[]⟩,.string ⟨#[]⟩,.int .i64 0,.int .i64 0,.slice none 0 0],.bool false]) w2 at hlk
   have HEE:=Lib.hid (show loadE l n = 8 by rw [HE.out,← hE];simp)
   clear hin hE
   go_wp2
   go_ret2
   have hba:=HB2.out.1.alloc HB2.out.1.size (.cells #[.int .i64 0,.string ⟨#[]⟩,.string ⟨#[]⟩,.int .i64 0,.int .i64 0,.slice none 0 0] 60)
   exact ⟨hba,.inl ⟨by rw [HEE.out];decide,by rw [HEE.out];rfl⟩⟩
 ·have hC2 : (C != 0) = true:=by simpa using hC
  have hE:=HX.out.2.2.2.2.2.1
  rw [if_pos (by simpa using hC)] at hE
  have HEE:=Lib.hid (show loadE l n = C by rw [HE.out,← hE])
  have HNZ:=Lib.hid hC
  clear hE hC
  go_wp2
  go_ret2
  exact ⟨HX.out.2.2.2.2.2.2.trans (HB1.out.mono (by have:=HZ.out;omega)),.inl ⟨by rw [HEE.out];exact HNZ.out,by rw [HEE.out];rfl⟩⟩
end Go.Proofs.YtnfndgmlnoeelaaGreatDoor
