/- testselect.Select -/
import Derived.Test.YtnfndgmlnoeelaaGreatDoorZna
import Derived.Test.YtnfndgmlnoeelaaGreatDoorZlz
import Derived.Deep.RegionHeld3
import Derived.Test.YtnfndgmlnoeelaaGreatDoorEqk
import Derived.Test.YtnfndgmlnoeelaaGreatDoorZet
import Derived.Laws.StructEq
import Derived.Deep.DeepCutAuto
import Derived.Deep.QuietTactic
import Derived.BigQuiet
import Derived.IntWalk
namespace Go.Proofs.YtnfndgmlnoeelaaGreatDoor
open Go.RowKit Go.Proofs Go.Shelf
def KeyW (l : List Mo) (n : ByteArray × Int) (s : ByteArray) (er : Int) : Prop:=
 (loadE l n ≠ 0 ∧ s = ⟨#[]⟩ ∧ er = loadE l n) ∨ (loadE l n = 0 ∧ Clo (grf l) n none ∧ s = ⟨#[]⟩ ∧ er = 21) ∨ (loadE l n = 0 ∧ ∃ L,Clo (grf l) n (some L) ∧ s = certT l n L ∧ er = 0)
theorem KeyP.w {l : List Mo} {n : ByteArray × Int} {w w' : World} {e : Ending} (h : KeyP l n w e w') : Below w.heap.size w w' ∧ ∃ s er,e = .returned (.tuple #[.string s,.int .i64 er]) ∧ KeyW l n s er:=by
 refine ⟨h.1,?_⟩
 rcases h.2 with ⟨h1,h2⟩ | ⟨h1,h2,h3⟩ | ⟨h1,L,h2,h3⟩
 ·exact ⟨_,_,h2,.inl ⟨h1,rfl,rfl⟩⟩
 ·exact ⟨_,_,h3,.inr (.inl ⟨h1,h2,rfl,rfl⟩)⟩
 ·exact ⟨_,_,h3,.inr (.inr ⟨h1,L,h2,rfl,rfl⟩)⟩
theorem KeyW.ok {l : List Mo} {n : ByteArray × Int} {s : ByteArray} (h : KeyW l n s 0) : loadE l n = 0 ∧ ∃ L,Clo (grf l) n (some L) ∧ s = certT l n L:=by
 rcases h with ⟨h1,_,h3⟩ | ⟨_,_,_,h3⟩ | ⟨h1,L,h2,h3,_⟩
 ·exact absurd h3.symm h1
 ·cases h3
 ·exact ⟨h1,L,h2,h3⟩
theorem KeyW.unique {l : List Mo} {n : ByteArray × Int} {s s' : ByteArray} {er er' : Int} (h : KeyW l n s er) (k : KeyW l n s' er') : s = s' ∧ er = er':=by
 rcases h with ⟨h1,rfl,rfl⟩ | ⟨h1,h2,rfl,rfl⟩ | ⟨h1,L,h2,rfl,rfl⟩ <;> rcases k with ⟨k1,rfl,rfl⟩ | ⟨k1,k2,rfl,rfl⟩ | ⟨k1,L',k2,rfl,rfl⟩ <;>
  first
   | exact ⟨rfl,rfl⟩
   | exact absurd k1 h1
   | exact absurd h1 k1
   | (exfalso;have:=h2.unique k2;cases this;done)
   | (have:=h2.unique k2;cases this;exact ⟨rfl,rfl⟩)
def ReB (old new : List Mo) (n : ByteArray × Int) : Prop:=isT old n = true ∧ ∃ k,KeyW old n k 0 ∧ KeyW new n k 0
theorem nok_T {l : List Mo} (hw : MoW l) {n : ByteArray × Int} (h : n ∈ testsOf l) : NOk n:=by
 obtain ⟨x,hx⟩:=isT_body ((mem_testsOf l n).1 h)
 obtain ⟨m,hm,hd,hl,hi⟩:=bodyOf_mem hx
 exact ⟨by rw [← hl];exact (hw m hm).1,by rw [← hi];exact (hw m hm).2 x hd⟩
theorem zeroS_run (w : World) : (zeroValue 9).run Tryz.prog w = .ok (.string ⟨#[]⟩) w:=by kernel_rfl
def SelP (old new : List Mo) (w : World) (e : Ending) (w' : World) : Prop:=
 ∃ (rA : Option Addr) (rc : Nat) (uA : Option Addr) (uc : Nat) (R U : List (ByteArray × Int)) (f : ByteArray × Int → Bool),e = .returned (.tuple #[.slice rA R.length rc,.slice uA U.length uc]) ∧
  w'.ownsRow w.heap.size 24 2 (.slice rA R.length rc) R.length (namesC R) ∧ w'.ownsRow w.heap.size 24 2 (.slice uA U.length uc) U.length (namesC U) ∧ Below w.heap.size w w' ∧
  (∀ n,f n = true ↔ ReB old new n) ∧ R = (testsOf new).filter (fun n => !f n) ∧ U = (testsOf new).filter f
def GbI (old : List Mo) (T : List (ByteArray × Int)) (gb : ByteArray × Int → Option ByteArray) : Prop:=∀ n k,gb n = some k ↔ (n ∈ T ∧ KeyW old n k 0)
theorem GbI.put {old : List Mo} {T : List (ByteArray × Int)} {gb : ByteArray × Int → Option ByteArray} (h : GbI old T gb) {x : ByteArray × Int} {s : ByteArray} (hk : KeyW old x s 0) : GbI old (T ++ [x]) (fun n => if n = x then some s else gb n):=by
 intro n k
 show (if n = x then some s else gb n) = some k ↔ _
 by_cases e : n = x
 ·subst e
  rw [if_pos rfl]
  constructor
  ·intro h1;cases h1;exact ⟨by simp,hk⟩
  ·intro h1;rw [(hk.unique h1.2).1]
 ·rw [if_neg e,h n k,List.mem_append,List.mem_singleton]
  simp [e]
theorem GbI.pass {old : List Mo} {T : List (ByteArray × Int)} {gb : ByteArray × Int → Option ByteArray} (h : GbI old T gb) {x : ByteArray × Int} {s : ByteArray} {er : Int} (hk : KeyW old x s er) (he : er ≠ 0) : GbI old (T ++ [x]) gb:=by
 intro n k
 rw [h n k,List.mem_append,List.mem_singleton]
 constructor
 ·rintro ⟨h1,h2⟩;exact ⟨.inl h1,h2⟩
 ·rintro ⟨h1 | rfl,h2⟩
  ·exact ⟨h1,h2⟩
  ·exact absurd (hk.unique h2).2 he
set_option maxRecDepth 100000 in
set_option maxHeartbeats 8000000 in
theorem tsSelect_any (old new : List Mo) (A : Option Addr) (c : Nat) (A' : Option Addr) (c' : Nat) (w : World) (hlo : SlM w w.heap.size A c old) (hln : SlM w w.heap.size A' c' new) (hwo : MoW old) (hwn : MoW new) (hgo : greatL old = false) (hgn : greatL new = false) :
  Calls Tryz.prog 14 #[.slice A old.length c,.slice A' new.length c'] w (SelP old new w):=by
 obtain ⟨i0,hi,hz0',hz1',hz2'⟩:=info_parts Tryz.infoName
 have hmm:=@run_makeMap Tryz.prog
 obtain ⟨f,hf⟩ : ∃ f : ByteArray × Int → Bool,∀ n,f n = true ↔ ReB old new n:=⟨fun n => @decide _ (Classical.propDecidable (ReB old new n)),fun n => by simp⟩
 obtain ⟨W0,hW0⟩ : ∃ W0,w.alloc (.map #[] 0) = W0:=⟨_,rfl⟩
 have hz0 : w.heap.size < W0.heap.size:=by subst hW0;simp
 have hB0 : Below w.heap.size w W0:=by subst hW0;exact (Below.refl _ _).alloc (Nat.le_refl _) _
 have hs0 : MapA nameK W0 w.heap.size 0 (fun _ => none):=by subst hW0;exact MapA.made nameK w
 have HLo:=Lib.hid (show ∀ X : World,Below w.heap.size w X → SlM X X.heap.size A c old from fun X hX => (hlo.below hX).keep hX.size (fun _ _ => rfl))
 have HLn:=Lib.hid (show ∀ X : World,Below w.heap.size w X → SlM X X.heap.size A' c' new from fun X hX => (hln.below hX).keep hX.size (fun _ _ => rfl))
 have hto:=greatL_tot hgo
 have htn:=greatL_tot hgn
 have hlo2:=(greatL_le hgo).1
 have hln2:=(greatL_le hgn).1
 have HTo:=Lib.hid (show ∀ X : World,Below w.heap.size w X → Calls Tryz.prog 41 #[.slice A old.length c] X (TestsP old X) from fun X hX => tsTests_any old A c X (HLo.out X hX) hwo (by omega) (by omega))
 have HTn:=Lib.hid (show ∀ X : World,Below w.heap.size w X → Calls Tryz.prog 41 #[.slice A' new.length c'] X (TestsP new X) from fun X hX => tsTests_any new A' c' X (HLn.out X hX) hwn (by omega) (by omega))
 have HKo:=Lib.hid (show ∀ (X : World) (n : ByteArray × Int),Below w.heap.size w X → NOk n → Calls Tryz.prog 11 #[.slice A old.length c,.agg #[.string n.1,.int .i64 n.2]] X (KeyP old n X) from fun X n hX hn => dKey_any old n A c X (HLo.out X hX) hn hwo (by omega) (by omega) (fun h => ⟨_,uok_of hgo h⟩))
 have HKn:=Lib.hid (show ∀ (X : World) (n : ByteArray × Int),Below w.heap.size w X → NOk n → Calls Tryz.prog 11 #[.slice A' new.length c',.agg #[.string n.1,.int .i64 n.2]] X (KeyP new n X) from fun X n hX hn => dKey_any new n A' c' X (HLn.out X hX) hn hwn (by omega) (by omega) (fun h => ⟨_,uok_of hgn h⟩))
 have HTL:=Lib.hid (show (testsOf old).length ≤ 32 ∧ (testsOf new).length ≤ 32 from ⟨by have:=testsOf_len old;omega,by have:=testsOf_len new;omega⟩)
 obtain ⟨N,HN⟩ : ∃ Q,Hid (old.length = Q):=⟨_,Lib.hid rfl⟩
 obtain ⟨N',HN'⟩ : ∃ Q,Hid (new.length = Q):=⟨_,Lib.hid rfl⟩
 rw [HN.out] at HTo HKo ⊢
 rw [HN'.out] at HTn HKn ⊢
 have HX:=Lib.hid (And.intro hwo (And.intro hwn (And.intro hf (And.intro hB0 hs0))))
 clear hlo hln hwo hwn hgo hgn hto htn hlo2 hln2 HLo HLn hf hs0
 go_enter Tryz.func14,Tryz.ntmps14
 go_wp2_with fail
 refine (HTo.out W0 hB0).mono ?_
 rintro e w1 ⟨v1,rfl,hown1,hb1⟩
 obtain ⟨tA,tc,rfl⟩:=own_formN hown1
 obtain ⟨TO,HTO⟩ : ∃ Q,Hid (testsOf old = Q):=⟨_,Lib.hid rfl⟩
 rw [HTO.out] at hown1 HTL ⊢
 obtain ⟨K,HK⟩ : ∃ Q,Hid (TO.length = Q):=⟨_,Lib.hid rfl⟩
 have hm1:=HX.out.2.2.2.2.keep (hb1.block _ hz0)
 have hbw1:=hB0.trans (hb1.mono hB0.size)
 have hz1:=hb1.size
 have H1:=Lib.hid (And.intro hm1 (And.intro hown1 hbw1))
 have hKl:=HTL.out.1
 rw [HK.out] at hKl ⊢
 clear hm1 hown1 hbw1 hb1 hB0 hW0
 go_wp2
 go_loopg [8,9,10,23] K (fun g _ _ _ ct wr => ∃ (j : Nat) (gb : ByteArray × Int → Option ByteArray),g = K - j ∧ j ≤ K ∧ ct = .int .i64 j ∧ GbI old (TO.take j) gb ∧ MapA nameK wr w.heap.size j (fun n => (gb n).map .string) ∧ wr.ownsRow W0.heap.size 24 2 (.slice tA TO.length tc) TO.length (namesC TO) ∧ Below w.heap.size w wr ∧ W0.heap.size ≤ wr.heap.size)
 case atStart => exact ⟨0,fun _ => none,rfl,by omega,rfl,fun n k => by simp,H1.out.1.cong fun _ _ => rfl,H1.out.2.1,H1.out.2.2,hz1⟩
 case round =>
  obtain ⟨j,gb,HG,hj,rfl,hgb,hm,hrow,hB,hz⟩:=hrel
  by_cases hlt : j < K
  ·have hlt' : j < TO.length:=by rw [HK.out];exact hlt
   obtain ⟨x,hx⟩ : ∃ x,TO[j]? = some x:=⟨_,List.getElem?_eq_getElem hlt'⟩
   obtain ⟨gr,ucap,hform,hc1,hc2⟩:=own_pos2 hrow (by omega)
   simp only [Value.slice.injEq,true_and] at hform
   obtain ⟨rfl,rfl⟩:=hform
   rw [HK.out] at hc1
   obtain ⟨x0,x1⟩:=namesC_at x TO j hx
   have c0 : wr.cell? ⟨gr,j * 2,none⟩ = some (.string x.1):=(hrow.cellAt _ (by omega)).trans x0
   have c1 : wr.cell? ⟨gr,j * 2 + 1,none⟩ = some (.int .i64 x.2):=(hrow.cellAt _ (by omega)).trans x1
   have hxT : x ∈ testsOf old:=by rw [HTO.out];exact List.mem_of_getElem? hx
   have hxok:=nok_T HX.out.1 hxT
   have htk : TO.take (j + 1) = TO.take j ++ [x]:=by
    obtain ⟨_,rfl⟩:=List.getElem?_eq_some_iff.1 hx
    exact List.take_succ_eq_append_getElem _
   obtain ⟨W7,hW7⟩ : ∃ W7,wr.alloc (.cells #[.string x.1,.int .i64 x.2] 24) = W7:=⟨_,rfl⟩
   have hz7 : wr.heap.size < W7.heap.size:=by subst hW7;simp
   have hb7 : Below wr.heap.size wr W7:=by subst hW7;exact (Below.refl _ _).alloc (Nat.le_refl _) _
   have z0 : W7.cell? ⟨wr.heap.size,0,none⟩ = some (.string x.1):=by subst hW7;go_simp
   have z1 : W7.cell? ⟨wr.heap.size,1,none⟩ = some (.int .i64 x.2):=by subst hW7;go_simp
   have hbw7:=hB.trans (hb7.mono hB.size)
   have HK7:=Lib.hid (HKo.out W7 x hbw7 hxok)
   have HT:=Lib.hid (And.intro HG (And.intro hgb (And.intro (hm.keep (hb7.block _ (by omega))) (And.intro (own_of_blocks' hrow fun k hk => hb7.block k hk) (And.intro hbw7 (And.intro hxok htk))))))
   clear HG hgb hm hrow hB hx x0 x1 hxT hxok htk hb7 hbw7
   go_wp2_with fail
   refine HK7.out.mono ?_
   intro e w8 hp8
   obtain ⟨hb8,s,er,rfl,hv⟩:=hp8.w
   clear hp8
   have q0:=(hb8.cell (p:=⟨wr.heap.size,0,none⟩) hz7).trans z0
   have q1:=(hb8.cell (p:=⟨wr.heap.size,1,none⟩) hz7).trans z1
   have hz8:=hb8.size
   have H8:=Lib.hid (And.intro (HT.out.2.2.1.keep (hb8.block _ (by omega))) (And.intro (own_of_blocks' HT.out.2.2.2.1 fun k hk => hb8.block k hk) (And.intro (HT.out.2.2.2.2.1.trans (hb8.mono (by omega))) hv)))
   clear hb8 hv z0 z1 c0 c1 hW7
   by_cases he : er = 0
   ·subst he
    go_wp2_with (at_mapUpdate;refine wpList_mapPut _ rfl _ _ _ 108 (.inl rfl) nameK 9 Tryz.underlying108 w.heap.size j _ rfl H8.out.1 (by unfold maxLen;omega) x HT.out.2.2.2.2.2.1 rfl (.string s) rfl ?_;intro w9 hs9 hg9)
    go_roundg (K - (j + 1))
    case measure => rw [HT.out.1];omega
    case rel =>
     refine ⟨j + 1,_,rfl,by omega,by go_num,by rw [HT.out.2.2.2.2.2.2];exact HT.out.2.1.put H8.out.2.2.2,hs9.cong fun n _ => ?_,own_abides H8.out.2.1 hg9 (fun r e => by cases e;exact H8.out.1.obj),H8.out.2.2.1.grown hg9 (by omega) (fun q e => by cases e;exact Nat.le_refl _),by have:=hg9.size;omega⟩
     by_cases e : n = x
     ·rw [if_pos e,if_pos e];rfl
     ·rw [if_neg e,if_neg e]
   ·have he2 : (er == 0) = false:=by simpa using he
    have HE:=Lib.hid he
    clear he
    go_wp2
    go_roundg (K - (j + 1))
    case measure => rw [HT.out.1];omega
    case rel => exact ⟨j + 1,gb,rfl,by omega,by go_num,by rw [HT.out.2.2.2.2.2.2];exact HT.out.2.1.pass H8.out.2.2.2 HE.out,H8.out.1.mono (by omega),H8.out.2.1,H8.out.2.2.1,by omega⟩
  ·obtain rfl : j = K:=by omega
   have htk : TO.take j = TO:=List.take_of_length_le (by rw [HK.out];exact Nat.le_refl _)
   rw [htk] at hgb
   have H2:=Lib.hid (And.intro hgb (And.intro hm hB))
   clear hgb hm hB HG hrow htk
   have HTX:=Lib.hid (HTn.out wr H2.out.2.2)
   go_wp2_with fail
   refine HTX.out.mono ?_
   rintro e w3 ⟨v3,rfl,hown3,hb3⟩
   obtain ⟨tA3,tc3,rfl⟩:=own_formN hown3
   obtain ⟨TN,HTN⟩ : ∃ Q,Hid (testsOf new = Q):=⟨_,Lib.hid rfl⟩
   rw [HTN.out] at hown3 HTL ⊢
   obtain ⟨M,HM⟩ : ∃ Q,Hid (TN.length = Q):=⟨_,Lib.hid rfl⟩
   have hMl:=HTL.out.2
   rw [HM.out] at hMl ⊢
   have hzr:=hb3.size
   have H3:=Lib.hid (And.intro (H2.out.2.1.keep (hb3.block _ (by omega))) (And.intro hown3 (H2.out.2.2.trans (hb3.mono H2.out.2.2.size))))
   have hz3 : w.heap.size < w3.heap.size:=by omega
   clear hown3 hb3
   go_wp2
   go_loopg [11,12,14,15,16,17,18,42] M (fun g rv uv _ _ _ _ _ ct wr => ∃ (q : Nat) (R U : List (ByteArray × Int)),g = M - q ∧ q ≤ M ∧ ct = .int .i64 q ∧ R = (TN.take q).filter (fun n => !f n) ∧ U = (TN.take q).filter f ∧ wr.ownsRow w3.heap.size 24 2 rv R.length (namesC R) ∧ wr.ownsRow w3.heap.size 24 2 uv U.length (namesC U) ∧ (∀ k,rv.ownBlock = some k → uv.ownBlock ≠ some k) ∧ Below w3.heap.size w3 wr)
   case atStart => exact ⟨0,[],[],rfl,by omega,rfl,rfl,rfl,World.ownsRow_nil _ _ _ _,World.ownsRow_nil _ _ _ _,(fun k h => by cases h),Below.refl _ _⟩
   case round =>
    obtain ⟨q,R,U,HG2,hq,rfl,hR,hU,hrR,hrU,hne,hB3⟩:=hrel
    obtain ⟨rA,rc,rfl⟩:=own_formN hrR
    obtain ⟨uA,uc,rfl⟩:=own_formN hrU
    have hzq:=hB3.size
    by_cases hlt2 : q < M
    ·have hlt2' : q < TN.length:=by rw [HM.out];exact hlt2
     obtain ⟨x,hx⟩ : ∃ x,TN[q]? = some x:=⟨_,List.getElem?_eq_getElem hlt2'⟩
     have hrow:=own_of_blocks' H3.out.2.1 fun k hk => hB3.block k hk
     obtain ⟨gr,ucap,hform,hc1,hc2⟩:=own_pos2 hrow (by omega)
     simp only [Value.slice.injEq,true_and] at hform
     obtain ⟨rfl,rfl⟩:=hform
     rw [HM.out] at hc1
     obtain ⟨x0,x1⟩:=namesC_at x TN q hx
     have c0 : wr.cell? ⟨gr,q * 2,none⟩ = some (.string x.1):=(hrow.cellAt _ (by omega)).trans x0
     have c1 : wr.cell? ⟨gr,q * 2 + 1,none⟩ = some (.int .i64 x.2):=(hrow.cellAt _ (by omega)).trans x1
     have hxT : x ∈ testsOf new:=by rw [HTN.out];exact List.mem_of_getElem? hx
     have hxok:=nok_T HX.out.2.1 hxT
     have htk : TN.take (q + 1) = TN.take q ++ [x]:=by
      obtain ⟨_,rfl⟩:=List.getElem?_eq_some_iff.1 hx
      exact List.take_succ_eq_append_getElem _
     have hRl : R.length ≤ 32:=by rw [hR];have:=List.length_filter_le (fun n => !f n) (TN.take q);rw [List.length_take] at this;omega
     have hUl : U.length ≤ 32:=by rw [hU];have:=List.length_filter_le f (TN.take q);rw [List.length_take] at this;omega
     obtain ⟨W7,hW7⟩ : ∃ W7,wr.alloc (.cells #[.string x.1,.int .i64 x.2] 24) = W7:=⟨_,rfl⟩
     have hz7 : wr.heap.size < W7.heap.size:=by subst hW7;simp
     have hb7 : Below wr.heap.size wr W7:=by subst hW7;exact (Below.refl _ _).alloc (Nat.le_refl _) _
     have z0 : W7.cell? ⟨wr.heap.size,0,none⟩ = some (.string x.1):=by subst hW7;go_simp
     have z1 : W7.cell? ⟨wr.heap.size,1,none⟩ = some (.int .i64 x.2):=by subst hW7;go_simp
     have hb37 : Below w3.heap.size w3 W7:=hB3.trans (hb7.mono hzq)
     have hbw7 : Below w.heap.size w W7:=H3.out.2.2.trans (hb37.mono H3.out.2.2.size)
     have HK7:=Lib.hid (HKn.out W7 x hbw7 hxok)
     have hmap7:=H3.out.1.keep (hb37.block _ hz3)
     have hlk:=hmap7.look true Tryz.underlying108 (zeroS_run W7) (a:=x) hxok
     simp only [if_true] at hlk
     have HT:=Lib.hid (And.intro HG2 (And.intro hR (And.intro hU (And.intro (own_of_blocks' hrR fun k hk => hb7.block k hk) (And.intro (own_of_blocks' hrU fun k hk => hb7.block k hk) (And.intro hne (And.intro hb37 (And.intro hbw7 htk))))))))
     have HXT:=Lib.hid (And.intro hxT hxok)
     obtain ⟨go,Hgo⟩ : ∃ Q,Hid (gb x = Q):=⟨_,Lib.hid rfl⟩
     rw [Hgo.out] at hlk
     have hown0 : ∀ k,(Value.slice rA R.length rc).ownBlock = some k → w3.heap.size ≤ k:=fun k hk => (HT.out.2.2.2.1.lt k hk).1
     have hown0' : ∀ k,(Value.slice uA U.length uc).ownBlock = some k → w3.heap.size ≤ k:=fun k hk => (HT.out.2.2.2.2.1.lt k hk).1
     have HO:=Lib.hid (And.intro hown0 hown0')
     clear HG2 hR hU hrR hrU hne hB3 hx hrow x0 x1 hxT hxok htk hb7 hb37 hbw7 hmap7 hown0 hown0'
     have hst : ∃ (was : ByteArray) (okb : Bool),(Instr.lookup 108 (.map (some w.heap.size)) (.agg #[.string x.1,.int .i64 x.2]) true).run Tryz.prog W7 = .ok (.tuple #[.string was,.bool okb]) W7 ∧ (okb = true ↔ go.isSome = true) ∧ ∀ k,go = some k → was = k:=by
      cases go with
      | none => exact ⟨⟨#[]⟩,false,hlk,by simp,by simp⟩
      | some k => exact ⟨k,true,hlk,by simp,by simp⟩
     obtain ⟨was,okb,hlk2,hokb⟩:=hst
     have HOK:=Lib.hid hokb
     clear hlk hokb
     go_wp2_with fail
     refine HK7.out.mono ?_
     intro e w8 hp8
     obtain ⟨hb8,s,er,rfl,hv⟩:=hp8.w
     clear hp8
     have q0:=(hb8.cell (p:=⟨wr.heap.size,0,none⟩) hz7).trans z0
     have q1:=(hb8.cell (p:=⟨wr.heap.size,1,none⟩) hz7).trans z1
     have hz8:=hb8.size
     have hrR8:=own_of_blocks' HT.out.2.2.2.1 fun k hk => hb8.block k hk
     have hrU8:=own_of_blocks' HT.out.2.2.2.2.1 fun k hk => hb8.block k hk
     have H8:=Lib.hid (And.intro hrR8 (And.intro hrU8 (And.intro (HT.out.2.2.2.2.2.2.1.trans (hb8.mono (by omega))) hv)))
     clear hb8 hv z0 z1 c0 c1 hW7 hlk2 hrR8 hrU8
     have hst:=toL_beq s was
     by_cases hgood : okb = true ∧ er = 0 ∧ s = was
     ·obtain ⟨hok,rfl,rfl⟩:=hgood
      have hfx : f x = true:=by
       rw [HX.out.2.2.1]
       obtain ⟨k,hk⟩:=Option.isSome_iff_exists.1 (HOK.out.1.1 hok)
       have h1:=(H2.out.1 x s).1 (by rw [Hgo.out,hk,HOK.out.2 k hk])
       refine ⟨?_,s,h1.2,H8.out.2.2.2⟩
       rw [← mem_testsOf,HTO.out];exact h1.1
      have HF:=Lib.hid hfx
      have hst2 : (s.toList == s.toList) = true:=by simp
      clear hst hfx
      subst hok
      go_wp2_with (at_builtin;refine wpList_append_own_at _ rfl _ _ 47 rfl w3.heap.size 24 i0 _ 2 24 Tryz.underlying47 hi hz0' hz1' hz2' rfl (by decide) _ _ _ rfl (H8.out.2.1.alloc _) ⟨w8.heap.size,0,none⟩ 1 1 [.string x.1,.int .i64 x.2] rfl rfl (cell_pair_new _ _ _ _) (by simp [Value.oneCell']) (by unfold maxLen;omega) (by omega) (by simp;omega) ?_;intro v9 w9 hown9 hg9 _ hat9;have HS9:=Lib.hid (And.intro hown9 (And.intro hg9 hat9));obtain ⟨g9,c9,rfl⟩:=ownsRow_succ hown9;clear hown9 hg9 hat9)
      go_roundg (M - (q + 1))
      case measure => rw [HT.out.1];omega
      case rel =>
       have hg9 : (w8.alloc (.cells #[.string x.1,.int .i64 x.2] 24)).grownBy w9 (Value.slice uA U.length uc).ownBlock:=HS9.out.2.1
       have hz9:=hg9.size
       simp at hz9
       refine ⟨q + 1,R,U ++ [x],rfl,by omega,by go_num,?_,?_,own_of_blocks (H8.out.1.alloc (.cells #[.string x.1,.int .i64 x.2] 24)) (fun k hk => hg9.block k ?_ (fun e => HT.out.2.2.2.2.2.1 k hk e.symm)),?_,?_,?_⟩
       ·rw [HT.out.2.2.2.2.2.2.2.2,List.filter_append,← HT.out.2.1];simp [HF.out]
       ·rw [HT.out.2.2.2.2.2.2.2.2,List.filter_append,← HT.out.2.2.1];simp [HF.out]
       ·have:=(H8.out.1.lt k hk).2;simp;omega
       ·rw [List.length_append,namesC_append];exact HS9.out.1
       ·intro k hk e
        rcases HS9.out.2.2 with h | h
        ·exact HT.out.2.2.2.2.2.1 k hk (h.symm.trans e)
        ·rw [h] at e
         have:=(H8.out.1.lt k hk).2
         simp at e
         omega
       ·exact (H8.out.2.2.1.alloc (by omega) _).grown hg9 (by simp;omega) (fun k e => HO.out.2 k e)
     ·have hfx : f x = false:=by
       cases hfx : f x with
       | false => rfl
       | true =>
        exfalso
        obtain ⟨h1,k,h2,h3⟩:=(HX.out.2.2.1 x).1 hfx
        have h4 : gb x = some k:=(H2.out.1 x k).2 ⟨by rw [← HTO.out,mem_testsOf];exact h1,h2⟩
        obtain ⟨h5,h6⟩:=H8.out.2.2.2.unique h3
        rw [Hgo.out] at h4
        exact hgood ⟨HOK.out.1.2 (by rw [h4];rfl),h6,by rw [HOK.out.2 k h4];exact h5⟩
      have HF:=Lib.hid hfx
      have hbad : okb = false ∨ (okb = true ∧ (er == 0) = false) ∨ (okb = true ∧ er = 0 ∧ (s.toList == was.toList) = false):=by
       cases okb with
       | false => exact .inl rfl
       | true =>
        by_cases he : er = 0
        ·refine .inr (.inr ⟨rfl,he,?_⟩)
         rw [hst]
         exact decide_eq_false fun h => hgood ⟨rfl,he,h⟩
        ·exact .inr (.inl ⟨rfl,by simpa using he⟩)
      clear hst hfx hgood
      rcases hbad with rfl | ⟨rfl,he2⟩ | ⟨rfl,rfl,hst2⟩ <;> (
       go_wp2_with (at_builtin;refine wpList_append_own_at _ rfl _ _ 47 rfl w3.heap.size 24 i0 _ 2 24 Tryz.underlying47 hi hz0' hz1' hz2' rfl (by decide) _ _ _ rfl (H8.out.1.alloc _) ⟨w8.heap.size,0,none⟩ 1 1 [.string x.1,.int .i64 x.2] rfl rfl (cell_pair_new _ _ _ _) (by simp [Value.oneCell']) (by unfold maxLen;omega) (by omega) (by simp;omega) ?_;intro v9 w9 hown9 hg9 _ hat9;have HS9:=Lib.hid (And.intro hown9 (And.intro hg9 hat9));obtain ⟨g9,c9,rfl⟩:=ownsRow_succ hown9;clear hown9 hg9 hat9)
       go_roundg (M - (q + 1))
       case measure => rw [HT.out.1];omega
       case rel =>
        have hg9 : (w8.alloc (.cells #[.string x.1,.int .i64 x.2] 24)).grownBy w9 (Value.slice rA R.length rc).ownBlock:=HS9.out.2.1
        have hz9:=hg9.size
        simp at hz9
        refine ⟨q + 1,R ++ [x],U,rfl,by omega,by go_num,?_,?_,?_,own_of_blocks (H8.out.2.1.alloc (.cells #[.string x.1,.int .i64 x.2] 24)) (fun k hk => hg9.block k ?_ (fun e => HT.out.2.2.2.2.2.1 k e.symm hk)),?_,?_⟩
        ·rw [HT.out.2.2.2.2.2.2.2.2,List.filter_append,← HT.out.2.1];simp [HF.out]
        ·rw [HT.out.2.2.2.2.2.2.2.2,List.filter_append,← HT.out.2.2.1];simp [HF.out]
        ·rw [List.length_append,namesC_append];exact HS9.out.1
        ·have:=(H8.out.2.1.lt k hk).2;simp;omega
        ·intro k hk e
         rcases HS9.out.2.2 with h | h
         ·exact HT.out.2.2.2.2.2.1 k (h.symm.trans hk) e
         ·rw [h] at hk
          have:=(H8.out.2.1.lt k e).2
          simp at hk
          omega
        ·exact (H8.out.2.2.1.alloc (by omega) _).grown hg9 (by simp;omega) (fun k e => HO.out.1 k e))
    ·obtain rfl : q = M:=by omega
     have htk : TN.take q = TN:=List.take_of_length_le (by rw [HM.out];exact Nat.le_refl _)
     rw [htk] at hR hU
     have HF:=Lib.hid (And.intro hR (And.intro hU (And.intro hrR (And.intro hrU hB3))))
     obtain ⟨r1,Hr1⟩ : ∃ Q,Hid (R.length = Q):=⟨_,Lib.hid rfl⟩
     obtain ⟨u1,Hu1⟩ : ∃ Q,Hid (U.length = Q):=⟨_,Lib.hid rfl⟩
     rw [Hr1.out,Hu1.out]
     clear hR hU hrR hrU hne hB3 HG2 htk
     go_wp2
     go_ret2
     refine ⟨rA,rc,uA,uc,R,U,f,by rw [Hr1.out,Hu1.out];rfl,World.ownsRow.mono HF.out.2.2.1 (by omega),World.ownsRow.mono HF.out.2.2.2.1 (by omega),H3.out.2.2.trans (HF.out.2.2.2.2.mono (by omega)),HX.out.2.2.1,?_,?_⟩
     ·rw [HTN.out];exact HF.out.1
     ·rw [HTN.out];exact HF.out.2.1
end Go.Proofs.YtnfndgmlnoeelaaGreatDoor
/- ref50.Great; law50.small -/
namespace Go.Proofs.YtnfndgmlnoeelaaGreatDoor
open Go.RowKit Go.Proofs Go.Shelf
set_option maxRecDepth 100000 in
set_option maxHeartbeats 1000000 in
theorem great50_any (l : List Mo) (A : Option Addr) (c : Nat) (p : ByteArray) (i : Int) (cA : Option Addr) (nL cc : Nat) (k : ByteArray) (w : World) (hl : SlM w w.heap.size A c l) :
  Calls Tryz.prog 37 #[.slice A l.length c,.agg #[.string p,.int .i64 i,.slice cA nL cc,.string k]] w fun e w' => e = .returned (.bool (greatL l || decide (30 < nL) || decide (3000 < k.size))) ∧ Below w.heap.size w w':=by
 obtain ⟨W0,hW0⟩ : ∃ W0,w.alloc (.cells #[.string p,.int .i64 i,.slice cA nL cc,.string k] 104) = W0:=⟨_,rfl⟩
 have hb0 : Below w.heap.size w W0:=by subst hW0;exact (Below.refl _ _).alloc (Nat.le_refl _) _
 have hz0 : w.heap.size < W0.heap.size:=by subst hW0;simp
 have n2 : W0.cell? ⟨w.heap.size,2,none⟩ = some (.slice cA nL cc):=by subst hW0;go_simp
 have n3 : W0.cell? ⟨w.heap.size,3,none⟩ = some (.string k):=by subst hW0;go_simp
 have HG:=Lib.hid (great40_any l A c W0 ((hl.below hb0).keep hb0.size (fun _ _ => rfl)))
 obtain ⟨g,Hg⟩ : ∃ Q,Hid (greatL l = Q):=⟨_,Lib.hid rfl⟩
 obtain ⟨N,HN⟩ : ∃ Q,Hid (l.length = Q):=⟨_,Lib.hid rfl⟩
 rw [HN.out,Hg.out] at HG
 rw [HN.out,Hg.out]
 have HB:=Lib.hid (And.intro hb0 hz0)
 clear hl hb0 hz0
 go_enter Tryz.func37,Tryz.ntmps37
 go_wp2_with fail
 refine HG.out.mono ?_
 rintro e w1 ⟨rfl,hb1⟩
 have k2:=(hb1.cell (p:=⟨w.heap.size,2,none⟩) HB.out.2).trans n2
 have k3:=(hb1.cell (p:=⟨w.heap.size,3,none⟩) HB.out.2).trans n3
 have HB1:=Lib.hid (HB.out.1.trans (hb1.mono HB.out.1.size))
 clear hb1 n2 n3 hW0
 have e1 : decide ((30 : Int) < (nL : Int)) = decide (30 < nL):=decide_eq_decide.2 (by omega)
 have e2 : decide ((3000 : Int) < (k.size : Int)) = decide (3000 < k.size):=decide_eq_decide.2 (by omega)
 cases g with
 | true =>
  go_wp2
  go_ret
  exact ⟨by simp,HB1.out⟩
 | false =>
  by_cases h1 : 30 < nL
  ·have d1 : decide (30 < nL) = true:=decide_eq_true h1
   rw [d1] at e1
   go_wp2
   go_ret
   exact ⟨by simp [h1],HB1.out⟩
  ·have d1 : decide (30 < nL) = false:=decide_eq_false h1
   rw [d1] at e1
   by_cases h2 : 3000 < k.size
   ·have d2 : decide (3000 < k.size) = true:=decide_eq_true h2
    rw [d2] at e2
    go_wp2
    go_ret
    exact ⟨by simp [h1,h2],HB1.out⟩
   ·have d2 : decide (3000 < k.size) = false:=decide_eq_false h2
    rw [d2] at e2
    go_wp2
    go_ret
    exact ⟨by simp [h1,h2],HB1.out⟩
structure MS where
 A : Option Addr
 c : Nat
 l : List Mo
set_option maxRecDepth 100000 in
set_option maxHeartbeats 1000000 in
theorem small50_any (LL : List MS) (b : Nat) (w : World) (h : ∀ j x,LL[j]? = some x → w.cell? ⟨b,j,none⟩ = some (.slice x.A x.l.length x.c) ∧ SlM w w.heap.size x.A x.c x.l) (hb : b < w.heap.size) (hl : LL.length ≤ 10) :
  Calls Tryz.prog 12 #[.slice (some ⟨b,0,none⟩) LL.length LL.length] w fun e w' => e = .returned (.bool (LL.all fun x => !greatL x.l)) ∧ Below w.heap.size w w':=by
 obtain ⟨N,HN⟩ : ∃ Q,Hid (LL.length = Q):=⟨_,Lib.hid rfl⟩
 obtain ⟨E,HE⟩ : ∃ Q,Hid ((LL.all fun x => !greatL x.l) = Q):=⟨_,Lib.hid rfl⟩
 have HH:=Lib.hid h
 rw [HN.out] at hl ⊢
 rw [HE.out]
 clear h
 go_enter Tryz.func12,Tryz.ntmps12
 go_wp2
 go_loopg [4,7] N (fun g _ ct wr => ∃ j : Nat,g = N - j ∧ j ≤ N ∧ ct = .int .i64 j ∧ ((LL.drop j).all fun x => !greatL x.l) = E ∧ Below w.heap.size w wr)
 case atStart => exact ⟨0,rfl,by omega,rfl,HE.out,Below.refl _ _⟩
 case round =>
  obtain ⟨j,HG,hj,rfl,hE,hB⟩:=hrel
  by_cases hlt : j < N
  ·have hlt' : j < LL.length:=by rw [HN.out];exact hlt
   obtain ⟨x,hx⟩ : ∃ x,LL[j]? = some x:=⟨_,List.getElem?_eq_getElem hlt'⟩
   have hdr : LL.drop j = x :: LL.drop (j + 1):=by
    obtain ⟨_,rfl⟩:=List.getElem?_eq_some_iff.1 hx
    exact List.drop_eq_getElem_cons _
   rw [hdr,List.all_cons] at hE
   obtain ⟨hc0,hsl⟩:=HH.out j x hx
   have c0:=(hB.cell (p:=⟨b,j,none⟩) hb).trans hc0
   have x1 : (0 : Int) ≤ (j : Int):=by omega
   have x2 : (j : Int) < (N : Int):=by omega
   have HC:=Lib.hid (great50_any x.l x.A x.c ⟨#[]⟩ 0 none 0 0 ⟨#[]⟩ wr ((hsl.below hB).keep hB.size (fun _ _ => rfl)))
   obtain ⟨g,Hg⟩ : ∃ Q,Hid (greatL x.l = Q):=⟨_,Lib.hid rfl⟩
   rw [Hg.out] at HC hE
   have hgz : (g || decide (30 < 0) || decide (3000 < (⟨#[]⟩ : ByteArray).size)) = g:=by cases g <;> decide
   rw [hgz] at HC
   have HC2:=HC
   clear hgz
   have HT:=Lib.hid (And.intro HG (And.intro hE hB))
   clear HC HG hE hB hdr hsl hc0 hx
   cases g with
   | true =>
    go_wp2_with fail
    refine HC2.out.mono ?_
    rintro e w1 ⟨rfl,hb1⟩
    have HB1:=Lib.hid (HT.out.2.2.trans (hb1.mono HT.out.2.2.size))
    clear hb1 c0
    go_wp2
    go_ret
    exact ⟨by rw [← HT.out.2.1];rfl,HB1.out⟩
   | false =>
    go_wp2_with fail
    refine HC2.out.mono ?_
    rintro e w1 ⟨rfl,hb1⟩
    have HB1:=Lib.hid (HT.out.2.2.trans (hb1.mono HT.out.2.2.size))
    clear hb1 c0
    go_wp2
    go_roundg (N - (j + 1))
    case measure => rw [HT.out.1];omega
    case rel => exact ⟨j + 1,rfl,by omega,by go_num,by have:=HT.out.2.1;simpa using this,HB1.out⟩
  ·obtain rfl : j = N:=by omega
   have HF:=Lib.hid (show E = true by rw [← hE,List.drop_of_length_le (by rw [HN.out];exact Nat.le_refl _)];rfl)
   have HB:=Lib.hid hB
   clear hE hB HG
   go_wp2
   go_ret
   exact ⟨by rw [HF.out];rfl,HB.out⟩
end Go.Proofs.YtnfndgmlnoeelaaGreatDoor
/- law50.awake: its modules, plainly -/
namespace Go.Proofs.YtnfndgmlnoeelaaGreatDoor
open Go.RowKit Go.Proofs Go.Shelf
def aT1 : ByteArray × Int:=(⟨#[109]⟩,1)
def aF2 : ByteArray × Int:=(⟨#[109]⟩,2)
def aT3 : ByteArray × Int:=(⟨#[109]⟩,3)
def aD1 (nb : Nat) : Dc:=⟨1,2,false,some ⟨nb,0,none⟩,1,[⟨#[116]⟩],false,5,⟨#[]⟩,⟨#[]⟩,2,0,none,0,.nil⟩
def aD2 (nb : Nat) (k : Int) : Dc:=⟨2,1,false,some ⟨nb,0,none⟩,1,[⟨#[102]⟩],false,2,⟨#[]⟩,⟨#[]⟩,k,0,none,0,.nil⟩
def aD3 (nb : Nat) : Dc:=⟨3,2,false,some ⟨nb,0,none⟩,1,[⟨#[117]⟩],false,2,⟨#[]⟩,⟨#[]⟩,1,0,none,0,.nil⟩
def aMo (n1 n2 n3 db : Nat) (k : Int) : Mo:=⟨⟨#[109]⟩,none,0,[],some ⟨db,0,none⟩,3,[aD1 n1,aD2 n2 k,aD3 n3]⟩
theorem a_chk0 (n1 n2 n3 db : Nat) : chkL [aMo n1 n2 n3 db 0] = 0:=by kernel_rfl
theorem a_chk1 (n1 n2 n3 db : Nat) : chkL [aMo n1 n2 n3 db 1] = 0:=by kernel_rfl
theorem a_great (n1 n2 n3 db : Nat) (k : Int) : greatL [aMo n1 n2 n3 db k] = false:=by kernel_rfl
theorem a_uses1 (nb : Nat) : usesOf ⟨#[109]⟩ (aD1 nb).body = [aF2]:=by
 have h : refL (aD1 nb).body.vis = [(⟨#[]⟩,2)]:=by kernel_rfl
 have h2 : fullN ⟨#[109]⟩ (⟨#[]⟩,2) = aF2:=by kernel_rfl
 unfold usesOf ordN refsOf
 rw [h]
 simp [sortNames,compactL,dd,h2]
theorem a_uses2 (nb : Nat) (k : Int) : usesOf ⟨#[109]⟩ (aD2 nb k).body = []:=by
 have h : refL (aD2 nb k).body.vis = []:=by simp [refL,Dc.body,aD2,Fo.vis]
 unfold usesOf ordN refsOf
 rw [h]
 simp [sortNames,compactL]
theorem a_uses3 (nb : Nat) : usesOf ⟨#[109]⟩ (aD3 nb).body = []:=by
 have h : refL (aD3 nb).body.vis = []:=by simp [refL,Dc.body,aD3,Fo.vis]
 unfold usesOf ordN refsOf
 rw [h]
 simp [sortNames,compactL]
theorem a_body (n1 n2 n3 db : Nat) (k : Int) (n : ByteArray × Int) : bodyOf [aMo n1 n2 n3 db k] n = if n = aT1 then some (aD1 n1) else if n = aF2 then some (aD2 n2 k) else if n = aT3 then some (aD3 n3) else none:=by
 obtain ⟨a,i⟩:=n
 unfold bodyOf bodyOf declAt aMo aT1 aF2 aT3
 simp only
 by_cases ha : (⟨#[109]⟩ : ByteArray) = a
 ·subst ha
  rw [if_pos rfl]
  by_cases h1 : i = 1
  ·subst h1;simp [aD1]
  ·by_cases h2 : i = 2
   ·subst h2;simp [aD1,aD2]
   ·by_cases h3 : i = 3
    ·subst h3;simp [aD1,aD2,aD3]
    ·have e1 : ¬ (1 : Int) = i:=fun e => h1 e.symm
     have e2 : ¬ (2 : Int) = i:=fun e => h2 e.symm
     have e3 : ¬ (3 : Int) = i:=fun e => h3 e.symm
     simp [aD1,aD2,aD3,h1,h2,h3,e1,e2,e3]
 ·have ha' : ¬ a = ⟨#[109]⟩:=fun e => ha e.symm
  rw [if_neg ha]
  simp [ha']
theorem a_ne {i j : Int} (h : i ≠ j) : ((⟨#[109]⟩ : ByteArray),i) ≠ (⟨#[109]⟩,j):=fun e => h (congrArg Prod.snd e)
theorem a_ne21 : aF2 ≠ aT1:=a_ne (by decide)
theorem a_ne31 : aT3 ≠ aT1:=a_ne (by decide)
theorem a_ne32 : aT3 ≠ aF2:=a_ne (by decide)
theorem a_ne23 : aF2 ≠ aT3:=a_ne (by decide)
theorem a_grf (n1 n2 n3 db : Nat) (k : Int) (n : ByteArray × Int) : grf [aMo n1 n2 n3 db k] n = if n = aT1 then some [aF2] else if n = aF2 then some [] else if n = aT3 then some [] else none:=by
 unfold grf
 rw [a_body]
 by_cases h1 : n = aT1
 ·rw [if_pos h1,if_pos h1,h1]
  exact congrArg some (a_uses1 n1)
 ·rw [if_neg h1,if_neg h1]
  by_cases h2 : n = aF2
  ·rw [if_pos h2,if_pos h2,h2]
   exact congrArg some (a_uses2 n2 k)
  ·rw [if_neg h2,if_neg h2]
   by_cases h3 : n = aT3
   ·rw [if_pos h3,if_pos h3,h3]
    exact congrArg some (a_uses3 n3)
   ·rw [if_neg h3,if_neg h3];rfl
theorem a_lt12 : ltN aT1 aF2:=.inr ⟨rfl,by decide⟩
theorem a_lt13 : ltN aT1 aT3:=.inr ⟨rfl,by decide⟩
theorem a_ok1 : NOk aT1:=⟨by simp [aT1,maxLen,ByteArray.size],by decide⟩
theorem a_isT (n1 n2 n3 db : Nat) (k : Int) (n : ByteArray × Int) : isT [aMo n1 n2 n3 db k] n = true ↔ n = aT1 ∨ n = aT3:=by
 unfold isT
 rw [a_body]
 by_cases h1 : n = aT1
 ·rw [if_pos h1];simp [h1,tstO,aD1]
 ·rw [if_neg h1]
  by_cases h2 : n = aF2
  ·rw [if_pos h2];simp [h2,tstO,aD2,a_ne21,a_ne23]
  ·rw [if_neg h2]
   by_cases h3 : n = aT3
   ·rw [if_pos h3];simp [h3,tstO,aD3]
   ·rw [if_neg h3];simp [tstO,h1,h3]
theorem a_tests (n1 n2 n3 db : Nat) (k : Int) : testsOf [aMo n1 n2 n3 db k] = [aT1,aT3]:=by
 refine ltN_ext (testsOf_sorted _) (List.pairwise_cons.2 ⟨fun x hx => by rw [List.mem_singleton.1 hx];exact a_lt13,List.pairwise_singleton _ _⟩) fun x => ?_
 rw [mem_testsOf,a_isT]
 simp
theorem a_clo1 (n1 n2 n3 db : Nat) (k : Int) : Clo (grf [aMo n1 n2 n3 db k]) aT1 (some [aT1,aF2]):=by
 have hr : ∀ x,Reach (grf [aMo n1 n2 n3 db k]) aT1 x → x = aT1 ∨ x = aF2:=fun x hx => Reach.inside (p:=fun x => x = aT1 ∨ x = aF2) (.inl rfl) (fun z us hz hus u hu => by
  rw [a_grf] at hus
  rcases hz with rfl | rfl
  ·rw [if_pos rfl] at hus;cases hus;exact .inr (List.mem_singleton.1 hu)
  ·rw [if_neg a_ne21,if_pos rfl] at hus;cases hus;simp at hu) hx
 refine ⟨List.pairwise_cons.2 ⟨fun x hx => by rw [List.mem_singleton.1 hx];exact a_lt12,List.pairwise_singleton _ _⟩,fun x => ⟨fun hx => ?_,fun hx => ?_⟩,fun x hx => ?_⟩
 ·rcases List.mem_cons.1 hx with rfl | hx
  ·exact .refl
  ·rw [List.mem_singleton.1 hx]
   exact Reach.refl.step (by rw [a_grf,if_pos rfl]) (List.mem_singleton.2 rfl)
 ·rcases hr x hx with rfl | rfl <;> simp
 ·rw [a_grf]
  rcases hr x hx with rfl | rfl
  ·simp
  ·rw [if_neg a_ne21];simp
theorem a_clo3 (n1 n2 n3 db : Nat) (k : Int) : Clo (grf [aMo n1 n2 n3 db k]) aT3 (some [aT3]):=by
 have hr : ∀ x,Reach (grf [aMo n1 n2 n3 db k]) aT3 x → x = aT3:=fun x h => Reach.inside (p:=fun x => x = aT3) rfl (fun z us hz hus u hu => by
  rw [hz,a_grf,if_neg a_ne31,if_neg a_ne32,if_pos rfl] at hus;cases hus;simp at hu) h
 refine ⟨List.pairwise_singleton _ _,fun x => ⟨fun hx => by rw [List.mem_singleton.1 hx];exact .refl,fun hx => by rw [hr x hx];simp⟩,fun x hx => ?_⟩
 rw [hr x hx,a_grf,if_neg a_ne31,if_neg a_ne32];simp
theorem a_load0 (n1 n2 n3 db : Nat) : loadE [aMo n1 n2 n3 db 0] aT1 = 0 ∧ loadE [aMo n1 n2 n3 db 0] aT3 = 0:=by
 unfold loadE
 rw [a_chk0,a_body,a_body]
 exact ⟨by simp,by rw [if_neg a_ne31,if_neg a_ne32];simp⟩
theorem a_load1 (n1 n2 n3 db : Nat) : loadE [aMo n1 n2 n3 db 1] aT1 = 0 ∧ loadE [aMo n1 n2 n3 db 1] aT3 = 0:=by
 unfold loadE
 rw [a_chk1,a_body,a_body]
 exact ⟨by simp,by rw [if_neg a_ne31,if_neg a_ne32];simp⟩
theorem a_W (n1 n2 n3 db : Nat) (k : Int) : MoW [aMo n1 n2 n3 db k]:=by
 intro m hm
 rw [List.mem_singleton.1 hm]
 refine ⟨by simp [aMo,maxLen,ByteArray.size],fun d hd => ?_⟩
 simp only [aMo,List.mem_cons,List.not_mem_nil,or_false] at hd
 rcases hd with rfl | rfl | rfl <;> rfl
def aKey : ByteArray:=certT [aMo 0 0 0 0 0] aT1 [aT1,aF2]
theorem a_key0 (n1 n2 n3 db : Nat) : certT [aMo n1 n2 n3 db 0] aT1 [aT1,aF2] = aKey:=by kernel_rfl
theorem a_key1 (n1 n2 n3 db : Nat) : certT [aMo n1 n2 n3 db 1] aT1 [aT1,aF2] ≠ aKey:=by
 intro h
 have h2 : ((certT [aMo n1 n2 n3 db 1] aT1 [aT1,aF2]).data.toList == aKey.data.toList) = false:=by kernel_rfl
 rw [h] at h2
 simp at h2
theorem a_key3 (n1 n2 n3 db m1 m2 m3 mb : Nat) : certT [aMo n1 n2 n3 db 0] aT3 [aT3] = certT [aMo m1 m2 m3 mb 1] aT3 [aT3]:=by kernel_rfl
theorem a_cert (n1 n2 n3 db : Nat) : CertV [aMo n1 n2 n3 db 0] aT1 0 (some [aT1,aF2]):=
 .inr (.inr (.inr ⟨(a_load0 n1 n2 n3 db).1,_,a_clo1 n1 n2 n3 db 0,(a_isT n1 n2 n3 db 0 _).2 (.inl rfl),rfl,rfl⟩))
theorem a_ver0 {n1 n2 n3 db : Nat} {b : Bool} (h : VerV [aMo n1 n2 n3 db 0] aT1 [aT1,aF2] aKey b) : b = true:=h.2 ⟨a_cert n1 n2 n3 db,a_key0 n1 n2 n3 db⟩
theorem a_ver1 {n1 n2 n3 db : Nat} {b : Bool} (h : VerV [aMo n1 n2 n3 db 1] aT1 [aT1,aF2] aKey b) : b = false:=by
 cases b with
 | false => rfl
 | true => exact absurd (h.1 rfl).2 (a_key1 n1 n2 n3 db)
theorem a_sel {n1 n2 n3 db m1 m2 m3 mb : Nat} {f : ByteArray × Int → Bool} (hf : ∀ n,f n = true ↔ ReB [aMo n1 n2 n3 db 0] [aMo m1 m2 m3 mb 1] n) : f aT1 = false ∧ f aT3 = true:=by
 constructor
 ·cases h : f aT1 with
  | false => rfl
  | true =>
   obtain ⟨_,k,h1,h2⟩:=(hf _).1 h
   obtain ⟨_,L,h3,rfl⟩:=h1.ok
   obtain ⟨_,L',h4,h5⟩:=h2.ok
   have:=h3.unique (a_clo1 n1 n2 n3 db 0);cases this
   have:=h4.unique (a_clo1 m1 m2 m3 mb 1);cases this
   rw [a_key0] at h5
   exact absurd h5.symm (a_key1 m1 m2 m3 mb)
 ·rw [hf]
  exact ⟨(a_isT n1 n2 n3 db 0 _).2 (.inr rfl),_,.inr (.inr ⟨(a_load0 n1 n2 n3 db).2,_,a_clo3 n1 n2 n3 db 0,rfl,rfl⟩),.inr (.inr ⟨(a_load1 m1 m2 m3 mb).2,_,a_clo3 m1 m2 m3 mb 1,a_key3 n1 n2 n3 db m1 m2 m3 mb,rfl⟩)⟩
end Go.Proofs.YtnfndgmlnoeelaaGreatDoor
/- law50.awake is true -/
namespace Go.Proofs.YtnfndgmlnoeelaaGreatDoor
open Go.RowKit Go.Proofs Go.Shelf
theorem heap_push2 (w : World) (o : Obj) (k : Nat) : (w.alloc o).heap[k]? = if k = w.heap.size then some o else w.heap[k]?:=by
 by_cases h : k = w.heap.size
 ·subst h
  rw [if_pos rfl]
  exact heap_alloc_new w o
 ·rw [if_neg h]
  by_cases h2 : k < w.heap.size
  ·exact Below.heap_alloc _ _ _ h2
  ·rw [Array.getElem?_eq_none (by simp;omega),Array.getElem?_eq_none (by omega)]
theorem bel_row2 {w w' : World} (h : Below w.heap.size w w') {k : Nat} {o : Obj} (hk : w.heap[k]? = some o) : w'.heap[k]? = some o:=
 (h.block k (Array.getElem?_eq_some_iff.1 hk).1).trans hk
theorem a_slS {X : World} {nb : Nat} {nm : ByteArray} (h : X.heap[nb]? = some (.cells #[.string nm] 9 (0,0))) : SlS X X.heap.size (some ⟨nb,0,none⟩) 1 [nm]:=by
 refine ⟨by simp,by simp [maxLen],fun _ => ⟨_,_,rfl,(Array.getElem?_eq_some_iff.1 h).1,fun j s hj => ?_⟩⟩
 cases j with
 | succ j => simp at hj
 | zero => simp at hj;subst hj;exact cell_of_row X nb 0 _ _ (0,0) h
def aDb (n1 n2 n3 : Nat) (k : Int) : Obj:=.cells #[.int .i64 1,.int .i64 2,.bool false,.slice (some ⟨n1,0,none⟩) 1 1,.bool false,.int .i64 5,.string ⟨#[]⟩,.string ⟨#[]⟩,.int .i64 2,.int .i64 0,.slice none 0 0,
 .int .i64 2,.int .i64 1,.bool false,.slice (some ⟨n2,0,none⟩) 1 1,.bool false,.int .i64 2,.string ⟨#[]⟩,.string ⟨#[]⟩,.int .i64 k,.int .i64 0,.slice none 0 0,
 .int .i64 3,.int .i64 2,.bool false,.slice (some ⟨n3,0,none⟩) 1 1,.bool false,.int .i64 2,.string ⟨#[]⟩,.string ⟨#[]⟩,.int .i64 1,.int .i64 0,.slice none 0 0] 62
def aMb (db : Nat) : Obj:=.cells #[.string ⟨#[109]⟩,.slice none 0 0,.slice (some ⟨db,0,none⟩) 3 3] 58
theorem a_decl {X : World} {db nb q0 : Nat} {d : Dc} {nm : ByteArray} (hcells : ∀ q v,d.cells[q]? = some v → X.cell? ⟨db,q0 + q,none⟩ = some v) (hn : d.names = [nm]) (hA : d.nA = some ⟨nb,0,none⟩) (hc : d.nc = 1) (hs : d.s = .nil) (hsA : d.c = 0) (h1 : X.heap[nb]? = some (.cells #[.string nm] 9 (0,0))) :
  (∀ q v,d.cells[q]? = some v → X.cell? ⟨db,q0 + q,none⟩ = some v) ∧ SlS X X.heap.size d.nA d.nc d.names ∧ d.s.Sl X X.heap.size d.A d.c:=
 ⟨hcells,by rw [hn,hA,hc];exact a_slS h1,by rw [hs,hsA];exact Fo.Sl.nil _ _ _ _ (by simp [maxLen])⟩
theorem a_sl {X : World} {n1 n2 n3 db mb : Nat} {k : Int} (h1 : X.heap[n1]? = some (.cells #[.string ⟨#[116]⟩] 9 (0,0))) (h2 : X.heap[n2]? = some (.cells #[.string ⟨#[102]⟩] 9 (0,0))) (h5 : X.heap[n3]? = some (.cells #[.string ⟨#[117]⟩] 9 (0,0)))
  (h3 : X.heap[db]? = some (aDb n1 n2 n3 k)) (h4 : X.heap[mb]? = some (aMb db)) : SlM X X.heap.size (some ⟨mb,0,none⟩) 1 [aMo n1 n2 n3 db k]:=by
 have l3:=(Array.getElem?_eq_some_iff.1 h3).1
 have l4:=(Array.getElem?_eq_some_iff.1 h4).1
 have r3:=fun q => cell_of_row X db q _ _ (0,0) h3
 refine ⟨by simp,by simp [maxLen],fun _ => ⟨_,_,rfl,l4,fun j x hx => ?_⟩⟩
 cases j with
 | succ j => simp at hx
 | zero =>
  simp only [List.getElem?_cons_zero,Option.some.injEq] at hx
  subst hx
  refine ⟨fun q v hq => ?_,SlS.nil _ _ _ _ (by simp [aMo,maxLen]),by simp [aMo],by simp [aMo,maxLen],fun _ => ⟨_,_,rfl,l3,fun j x hx => ?_⟩⟩
  ·have:=cell_of_row X mb q _ _ (0,0) h4
   rw [Nat.zero_mul,Nat.zero_add,this]
   exact hq
  ·match j,hx with
   | 0,hx =>
    simp only [aMo,List.getElem?_cons_zero,Option.some.injEq] at hx
    subst hx
    refine a_decl (fun q v hq => ?_) rfl rfl rfl rfl rfl h1
    have hq' : q < 11:=(Array.getElem?_eq_some_iff.1 hq).1
    rw [show 0 + 0 * 11 + q = q by omega,r3 q,← hq]
    match q,hq' with
    | 0,_ => rfl
    | 1,_ => rfl
    | 2,_ => rfl
    | 3,_ => rfl
    | 4,_ => rfl
    | 5,_ => rfl
    | 6,_ => rfl
    | 7,_ => rfl
    | 8,_ => rfl
    | 9,_ => rfl
    | 10,_ => rfl
   | 1,hx =>
    simp only [aMo,List.getElem?_cons_succ,List.getElem?_cons_zero,Option.some.injEq] at hx
    subst hx
    refine a_decl (fun q v hq => ?_) rfl rfl rfl rfl rfl h2
    have hq' : q < 11:=(Array.getElem?_eq_some_iff.1 hq).1
    rw [show 0 + 1 * 11 + q = 11 + q by omega,r3 (11 + q),← hq]
    match q,hq' with
    | 0,_ => rfl
    | 1,_ => rfl
    | 2,_ => rfl
    | 3,_ => rfl
    | 4,_ => rfl
    | 5,_ => rfl
    | 6,_ => rfl
    | 7,_ => rfl
    | 8,_ => rfl
    | 9,_ => rfl
    | 10,_ => rfl
   | 2,hx =>
    simp only [aMo,List.getElem?_cons_succ,List.getElem?_cons_zero,Option.some.injEq] at hx
    subst hx
    refine a_decl (fun q v hq => ?_) rfl rfl rfl rfl rfl h5
    have hq' : q < 11:=(Array.getElem?_eq_some_iff.1 hq).1
    rw [show 0 + 2 * 11 + q = 22 + q by omega,r3 (22 + q),← hq]
    match q,hq' with
    | 0,_ => rfl
    | 1,_ => rfl
    | 2,_ => rfl
    | 3,_ => rfl
    | 4,_ => rfl
    | 5,_ => rfl
    | 6,_ => rfl
    | 7,_ => rfl
    | 8,_ => rfl
    | 9,_ => rfl
    | 10,_ => rfl
   | j + 3,hx => simp [aMo] at hx
set_option maxRecDepth 100000 in
theorem truth50_any (n : Int) (w : World) : Calls Tryz.prog 67 #[.int .i64 n] w fun e w' => e = .returned (.agg #[.int .i64 2,.string ⟨#[]⟩,.string ⟨#[]⟩,.int .i64 n,.int .i64 0,.slice none 0 0]) ∧ Below w.heap.size w w':=by
 go_enter Tryz.func67,Tryz.ntmps67
 go_wp2
 refine bodyPost_ret (v:=.agg #[.int .i64 2,.string ⟨#[]⟩,.string ⟨#[]⟩,.int .i64 n,.int .i64 0,.slice none 0 0]) (by simp [results,Tryz.results67,go_sem]) rfl ?_
 exact ⟨rfl,(Below.refl _ _).alloc (Nat.le_refl _) _⟩
def ModsP (k : Int) (w : World) (e : Ending) (w' : World) : Prop:=∃ n1 n2 n3 db mb,e = .returned (.slice (some ⟨mb,0,none⟩) 1 1) ∧ SlM w' w'.heap.size (some ⟨mb,0,none⟩) 1 [aMo n1 n2 n3 db k] ∧ Below w.heap.size w w'
set_option maxRecDepth 100000 in
set_option maxHeartbeats 4000000 in
theorem modules50_any (k : Int) (w : World) : Calls Tryz.prog 38 #[.int .i64 k] w (ModsP k w):=by
 have eg:=enterFn (fid:=67) rfl rfl rfl
 obtain ⟨W2,hW2⟩ : ∃ W2,(w.alloc (.cells #[.string ⟨#[116]⟩] 9)).alloc (.cells #[.string ⟨#[102]⟩] 9) = W2:=⟨_,rfl⟩
 have hb2 : Below w.heap.size w W2:=by subst hW2;exact ((Below.refl _ _).alloc (Nat.le_refl _) _).alloc (by simp) _
 have r1 : W2.heap[w.heap.size]? = some (.cells #[.string ⟨#[116]⟩] 9 (0,0)):=by rw [← hW2];simp only [heap_push2];rw [if_neg (by simp),if_pos trivial]
 have r2 : W2.heap[w.heap.size + 1]? = some (.cells #[.string ⟨#[102]⟩] 9 (0,0)):=by rw [← hW2,heap_push2,if_pos (by simp)]
 have HR:=Lib.hid (And.intro hb2 (And.intro r1 r2))
 clear hb2 r1 r2
 go_enter Tryz.func38,Tryz.ntmps38
 go_wp2_with fail
 refine (truth50_any k W2).mono ?_
 rintro e w3 ⟨rfl,hb3⟩
 have HB3:=Lib.hid hb3
 clear hb3 hW2
 obtain ⟨W4,hW4⟩ : ∃ W4,w3.alloc (.cells #[.string ⟨#[117]⟩] 9) = W4:=⟨_,rfl⟩
 have hb4 : Below w3.heap.size w3 W4:=by subst hW4;exact (Below.refl _ _).alloc (Nat.le_refl _) _
 have r3 : W4.heap[w3.heap.size]? = some (.cells #[.string ⟨#[117]⟩] 9 (0,0)):=by rw [← hW4,heap_push2,if_pos rfl]
 have HR4:=Lib.hid (And.intro hb4 r3)
 clear hb4 r3
 go_wp2_with fail
 refine (truth50_any 1 W4).mono ?_
 rintro e w5 ⟨rfl,hb5⟩
 have HB5:=Lib.hid hb5
 clear hb5 hW4
 go_wp2
 go_ret
 obtain ⟨X,hX⟩ : ∃ X,(w5.alloc (aDb w.heap.size (w.heap.size + 1) w3.heap.size k)).alloc (aMb w5.heap.size) = X:=⟨_,rfl⟩
 have hb6 : Below w5.heap.size w5 X:=by subst hX;exact ((Below.refl _ _).alloc (Nat.le_refl _) _).alloc (by simp) _
 have hb45 : Below w3.heap.size w3 w5:=HR4.out.1.trans (HB5.out.mono HR4.out.1.size)
 have hb35 : Below W2.heap.size W2 w5:=HB3.out.trans (hb45.mono HB3.out.size)
 have s3 : X.heap[w5.heap.size]? = some (aDb w.heap.size (w.heap.size + 1) w3.heap.size k):=by rw [← hX];simp only [heap_push2];rw [if_neg (by simp),if_pos trivial]
 have s4 : X.heap[w5.heap.size + 1]? = some (aMb w5.heap.size):=by rw [← hX,heap_push2,if_pos (by simp)]
 have hsl:=a_sl (bel_row2 hb6 (bel_row2 hb35 HR.out.2.1)) (bel_row2 hb6 (bel_row2 hb35 HR.out.2.2)) (bel_row2 hb6 (bel_row2 HB5.out HR4.out.2)) s3 s4
 have hbX : Below w.heap.size w X:=HR.out.1.trans ((hb35.trans (hb6.mono hb35.size)).mono HR.out.1.size)
 simp only [aDb,aMb] at hX
 rw [hX]
 exact ⟨_,_,_,_,_,rfl,hsl,hbX⟩
end Go.Proofs.YtnfndgmlnoeelaaGreatDoor
/- law50.awake is true: the walk -/
namespace Go.Proofs.YtnfndgmlnoeelaaGreatDoor
open Go.RowKit Go.Proofs Go.Shelf

theorem a_select {X : World} {n1 n2 n3 db mb m1 m2 m3 md mm : Nat} (h : SlM X X.heap.size (some ⟨mb,0,none⟩) 1 [aMo n1 n2 n3 db 0]) (h' : SlM X X.heap.size (some ⟨mm,0,none⟩) 1 [aMo m1 m2 m3 md 1]) :
  Calls Tryz.prog 14 #[.slice (some ⟨mb,0,none⟩) 1 1,.slice (some ⟨mm,0,none⟩) 1 1] X fun e w' => ∃ gR rc gU uc,e = .returned (.tuple #[.slice (some ⟨gR,0,none⟩) 1 rc,.slice (some ⟨gU,0,none⟩) 1 uc]) ∧ 1 ≤ rc ∧ 1 ≤ uc ∧ w'.ownsRow X.heap.size 24 2 (.slice (some ⟨gR,0,none⟩) 1 rc) 1 (namesC [aT1]) ∧ w'.ownsRow X.heap.size 24 2 (.slice (some ⟨gU,0,none⟩) 1 uc) 1 (namesC [aT3]) ∧ Below X.heap.size X w':=by
 refine (tsSelect_any _ _ _ _ _ _ X h h' (a_W _ _ _ _ _) (a_W _ _ _ _ _) (a_great _ _ _ _ _) (a_great _ _ _ _ _)).mono ?_
 rintro e w' ⟨rA,rc,uA,uc,R,U,f,rfl,hR,hU,hb,hf,hRe,hUe⟩
 obtain ⟨f1,f3⟩:=a_sel hf
 rw [a_tests] at hRe hUe
 have eR : R = [aT1]:=by rw [hRe];simp [f1,f3]
 have eU : U = [aT3]:=by rw [hUe];simp [f1,f3]
 subst eR eU
 obtain ⟨gR,c1,e1,l1,_⟩:=own_pos2 hR (by simp)
 obtain ⟨gU,c2,e2,l2,_⟩:=own_pos2 hU (by simp)
 simp only [Value.slice.injEq] at e1 e2
 obtain ⟨rfl,_,rfl⟩:=e1
 obtain ⟨rfl,_,rfl⟩:=e2
 exact ⟨gR,rc,gU,uc,rfl,l1,l2,hR,hU,hb⟩
theorem a_certify {X : World} {n1 n2 n3 db mb : Nat} (h : SlM X X.heap.size (some ⟨mb,0,none⟩) 1 [aMo n1 n2 n3 db 0]) :
  Calls Tryz.prog 39 #[.slice (some ⟨mb,0,none⟩) 1 1,.agg #[.string ⟨#[109]⟩,.int .i64 1]] X fun e w' => ∃ A c,e = .returned (.tuple #[.agg #[.string ⟨#[109]⟩,.int .i64 1,.slice A 2 c,.string aKey],.int .i64 0]) ∧ w'.ownsRow X.heap.size 24 2 (.slice A 2 c) 2 (namesC [aT1,aF2]) ∧ Below X.heap.size X w':=by
 refine (tsCertify_any _ aT1 _ _ X h a_ok1 (a_W _ _ _ _ _) (a_great _ _ _ _ _)).mono ?_
 rintro e w' ⟨hb,⟨er,hne,hv,rfl⟩ | ⟨L,A,c,hv,rfl,hown,_⟩⟩
 ·have:=(hv.unique (a_cert n1 n2 n3 db)).2
  cases this
 ·have:=(hv.unique (a_cert n1 n2 n3 db)).2
  cases this
  refine ⟨A,c,?_,hown,hb⟩
  rw [a_key0];rfl
theorem a_verify {X : World} {n1 n2 n3 db mb : Nat} {k : Int} {cA : Option Addr} {cc : Nat} (h : SlM X X.heap.size (some ⟨mb,0,none⟩) 1 [aMo n1 n2 n3 db k]) (hN : SlN X X.heap.size cA cc [aT1,aF2]) :
  Calls Tryz.prog 40 #[.slice (some ⟨mb,0,none⟩) 1 1,.agg #[.string ⟨#[109]⟩,.int .i64 1,.slice cA 2 cc,.string aKey]] X fun e w' => ∃ b,e = .returned (.bool b) ∧ VerV [aMo n1 n2 n3 db k] aT1 [aT1,aF2] aKey b ∧ Below X.heap.size X w':=
 tsVerify_any _ aT1 [aT1,aF2] aKey _ _ cA cc X h hN a_ok1 (a_W _ _ _ _ _) (a_great _ _ _ _ _)
set_option maxRecDepth 100000 in
set_option maxHeartbeats 16000000 in
theorem awake50_any (w : World) : Calls Tryz.prog 13 #[] w (fun e w' => e = .returned (.bool true) ∧ Below w.heap.size w w'):=by
 go_enter Tryz.func13,Tryz.ntmps13
 go_wp2_with fail
 refine (modules50_any 0 _).mono ?_
 rintro e w1 ⟨n1,n2,n3,db,mb,rfl,h1,hb1⟩
 have H1:=Lib.hid (And.intro h1 hb1)
 clear h1 hb1
 go_wp2_with fail
 refine (modules50_any 1 _).mono ?_
 rintro e w2 ⟨m1,m2,m3,md,mm,rfl,h2,hb2⟩
 have H2:=Lib.hid (And.intro ((H1.out.1.below hb2).keep hb2.size (fun _ _ => rfl)) (And.intro h2 (H1.out.2.trans (hb2.mono H1.out.2.size))))
 clear h2 hb2
 go_wp2_with fail
 refine (a_select H2.out.1 H2.out.2.1).mono ?_
 rintro e w3 ⟨gR,rc,gU,uc,rfl,l1,l2,hR,hU,hb3⟩
 have H3:=Lib.hid (And.intro hR (And.intro hU (H2.out.2.2.trans (hb3.mono H2.out.2.2.size))))
 clear hR hU hb3
 go_wp2_with fail
 refine (modules50_any 0 _).mono ?_
 rintro e w4 ⟨o1,o2,o3,od,om,rfl,h4,hb4⟩
 have H4:=Lib.hid (And.intro h4 hb4)
 clear h4 hb4
 go_wp2_with fail
 refine (a_certify H4.out.1).mono ?_
 rintro e w5 ⟨cA,cc,rfl,hown5,hb5⟩
 obtain ⟨T,HT⟩ : ∃ T,Hid (aKey = T):=⟨_,Lib.hid rfl⟩
 rw [HT.out]
 obtain ⟨W,hW⟩ : ∃ W,w5.alloc (.cells #[.string ⟨#[109]⟩,.int .i64 1,.slice cA 2 cc,.string T] 104) = W:=⟨_,rfl⟩
 have hbW : Below w5.heap.size w5 W:=by subst hW;exact (Below.refl _ _).alloc (Nat.le_refl _) _
 have hb3W : Below w3.heap.size w3 W:=(H4.out.2.trans (hb5.mono H4.out.2.size)).trans (hbW.mono (Nat.le_trans H4.out.2.size hb5.size))
 have hz : w5.heap.size < W.heap.size:=by subst hW;simp
 have hrow : W.heap[w5.heap.size]? = some (.cells #[.string ⟨#[109]⟩,.int .i64 1,.slice cA 2 cc,.string T] 104 (0,0)):=by subst hW;exact heap_alloc_new _ _
 have hRW:=own_of_blocks' H3.out.1 fun k hk => hb3W.block k hk
 have hUW:=own_of_blocks' H3.out.2.1 fun k hk => hb3W.block k hk
 have hCW:=SlN.of_own (l:=[aT1,aF2]) (own_of_blocks' hown5 fun k hk => hbW.block k hk)
 have HS:=Lib.hid (show ∀ X : World,Below W.heap.size W X → (X.cell? ⟨gR,1,none⟩ = some (.int .i64 1) ∧ X.cell? ⟨gU,1,none⟩ = some (.int .i64 3) ∧ X.cell? ⟨w5.heap.size,0,none⟩ = some (.string ⟨#[109]⟩) ∧ X.cell? ⟨w5.heap.size,1,none⟩ = some (.int .i64 1) ∧ X.cell? ⟨w5.heap.size,2,none⟩ = some (.slice cA 2 cc) ∧ X.cell? ⟨w5.heap.size,3,none⟩ = some (.string T)) from fun X hX =>
  ⟨(hX.cell (p:=⟨gR,1,none⟩) (hRW.lt gR rfl).2).trans (hRW.cellAt 1 (by omega)),(hX.cell (p:=⟨gU,1,none⟩) (hUW.lt gU rfl).2).trans (hUW.cellAt 1 (by omega)),(hX.cell (p:=⟨w5.heap.size,0,none⟩) hz).trans (cell_of_row W _ 0 _ _ (0,0) hrow),(hX.cell (p:=⟨w5.heap.size,1,none⟩) hz).trans (cell_of_row W _ 1 _ _ (0,0) hrow),(hX.cell (p:=⟨w5.heap.size,2,none⟩) hz).trans (cell_of_row W _ 2 _ _ (0,0) hrow),(hX.cell (p:=⟨w5.heap.size,3,none⟩) hz).trans (cell_of_row W _ 3 _ _ (0,0) hrow)⟩)
 have HM:=Lib.hid (show ∀ (k : Int) (X : World),Below W.heap.size W X → Calls Tryz.prog 38 #[.int .i64 k] X (fun e Y => ∃ n1 n2 n3 db mb,e = .returned (.slice (some ⟨mb,0,none⟩) 1 1) ∧ SlM Y Y.heap.size (some ⟨mb,0,none⟩) 1 [aMo n1 n2 n3 db k] ∧ Below W.heap.size W Y) from fun k X hX => by
  refine (modules50_any k X).mono ?_
  rintro e Y ⟨n1,n2,n3,db,mb,he,hs,hb⟩
  exact ⟨n1,n2,n3,db,mb,he,hs,hX.trans (hb.mono hX.size)⟩)
 have HV0:=Lib.hid (show ∀ (X : World) (n1 n2 n3 db mb : Nat),SlM X X.heap.size (some ⟨mb,0,none⟩) 1 [aMo n1 n2 n3 db 0] → Below W.heap.size W X → Calls Tryz.prog 40 #[.slice (some ⟨mb,0,none⟩) 1 1,.agg #[.string ⟨#[109]⟩,.int .i64 1,.slice cA 2 cc,.string T]] X (fun e Y => e = .returned (.bool true) ∧ Below W.heap.size W Y) from fun X n1 n2 n3 db mb hs hX => by
  rw [← HT.out]
  refine (a_verify hs (hCW.below hX)).mono ?_
  rintro e Y ⟨b,rfl,hv,hb⟩
  rw [a_ver0 hv]
  exact ⟨rfl,hX.trans (hb.mono hX.size)⟩)
 have HV1:=Lib.hid (show ∀ (X : World) (n1 n2 n3 db mb : Nat),SlM X X.heap.size (some ⟨mb,0,none⟩) 1 [aMo n1 n2 n3 db 1] → Below W.heap.size W X → Calls Tryz.prog 40 #[.slice (some ⟨mb,0,none⟩) 1 1,.agg #[.string ⟨#[109]⟩,.int .i64 1,.slice cA 2 cc,.string T]] X (fun e Y => e = .returned (.bool false) ∧ Below W.heap.size W Y) from fun X n1 n2 n3 db mb hs hX => by
  rw [← HT.out]
  refine (a_verify hs (hCW.below hX)).mono ?_
  rintro e Y ⟨b,rfl,hv,hb⟩
  rw [a_ver1 hv]
  exact ⟨rfl,hX.trans (hb.mono hX.size)⟩)
 have HF:=Lib.hid (H3.out.2.2.trans (hb3W.mono H3.out.2.2.size))
 have HBz:=Lib.hid (Below.refl W.heap.size W)
 clear hRW hUW hCW hrow hb3W hbW hown5 hb5 H1 H2 H3 H4
 go_wp2_with fail
 go_region_held3 (fun X => X.cell? ⟨gR,1,none⟩ = some (.int .i64 1) ∧ X.cell? ⟨gU,1,none⟩ = some (.int .i64 3) ∧ X.cell? ⟨w5.heap.size,0,none⟩ = some (.string ⟨#[109]⟩) ∧ X.cell? ⟨w5.heap.size,1,none⟩ = some (.int .i64 1) ∧ X.cell? ⟨w5.heap.size,2,none⟩ = some (.slice cA 2 cc) ∧ X.cell? ⟨w5.heap.size,3,none⟩ = some (.string T))
  (focus (refine HS.out _ ?_;(first | with_reducible exact HBz.out | with_reducible exact below_drew' HBz.out)))
  (first
   | (go_at_call 38;(with_reducible refine Calls.mono (HM.out _ _ ?_) ?_);(focus (first | with_reducible exact HBz.out | with_reducible exact below_drew' HBz.out));rintro e Y ⟨p1,p2,p3,pd,pm,rfl,hsY,hbY⟩;have HBz:=Lib.hid hbY;have HSl:=Lib.hid hsY;clear hsY hbY)
   | (go_at_call 40;(with_reducible refine Calls.mono (HV0.out _ _ _ _ _ _ HSl.out ?_) ?_);(focus (first | with_reducible exact HBz.out | with_reducible exact below_drew' HBz.out));rintro e Y ⟨rfl,hbY⟩;have HBz:=Lib.hid hbY;clear hbY)
   | (go_at_call 40;(with_reducible refine Calls.mono (HV1.out _ _ _ _ _ _ HSl.out ?_) ?_);(focus (first | with_reducible exact HBz.out | with_reducible exact below_drew' HBz.out));rintro e Y ⟨rfl,hbY⟩;have HBz:=Lib.hid hbY;clear hbY))
 all_goals (
  go_wp2
  go_ret
  exact ⟨rfl,HF.out.trans (HBz.out.mono HF.out.size)⟩)
end Go.Proofs.YtnfndgmlnoeelaaGreatDoor
/- Parts shared by the laws of law50 -/
namespace Go.Proofs.YtnfndgmlnoeelaaGreatDoor
open Go.RowKit Go.Proofs Go.Shelf
theorem SlN.nil (w : World) (B : Nat) (A : Option Addr) (c : Nat) (hc : c ≤ maxLen) : SlN w B A c []:=⟨Nat.zero_le _,hc,fun h => absurd rfl h⟩
theorem SlN.tail {w : World} {B : Nat} {b o c : Nat} {x : ByteArray × Int} {r : List (ByteArray × Int)} (h : SlN w B (some ⟨b,o,none⟩) c (x :: r)) : SlN w B (some ⟨b,o + 2,none⟩) (c - 1) r:=by
 obtain ⟨h1,h2,h3⟩:=h
 simp only [List.length_cons] at h1
 refine ⟨by omega,by omega,fun _ => ?_⟩
 obtain ⟨b',o',e,hb,hs⟩:=h3 (by simp)
 cases e
 refine ⟨b,o + 2,rfl,hb,fun j y hj => ?_⟩
 have:=hs (j + 1) y (by simpa using hj)
 rw [show o + (j + 1) * 2 = o + 2 + j * 2 by omega] at this
 exact this
def CerOk (l : List Mo) (n : ByteArray × Int) : Prop:=loadE l n = 0 ∧ isT l n = true ∧ ∃ L,Clo (grf l) n (some L)
def CertE (l : List Mo) (n : ByteArray × Int) (w : World) (e : Ending) (w' : World) : Prop:=
 ∃ p i cA cl cc k er,e = .returned (.tuple #[.agg #[.string p,.int .i64 i,.slice cA cl cc,.string k],.int .i64 er]) ∧ (er = 0 ↔ CerOk l n) ∧ Below w.heap.size w w'
theorem CertP.e {l : List Mo} {n : ByteArray × Int} {w w' : World} {e : Ending} (h : CertP l n w e w') : CertE l n w e w':=by
 obtain ⟨hb,⟨er,hne,hv,rfl⟩ | ⟨L,A,c,hv,rfl,_,_⟩⟩:=h
 ·refine ⟨_,_,_,_,_,_,er,rfl,⟨fun h => absurd h hne,fun ⟨h1,h2,L,h3⟩ => ?_⟩,hb⟩
  have hv2 : CertV l n 0 (some L):=.inr (.inr (.inr ⟨h1,L,h3,h2,rfl,rfl⟩))
  have:=(hv.unique hv2).2
  cases this
 ·refine ⟨_,_,_,_,_,_,0,rfl,⟨fun _ => ?_,fun _ => rfl⟩,hb⟩
  rcases hv with ⟨_,_,h⟩ | ⟨_,_,_,h⟩ | ⟨_,_,_,_,_,h⟩ | ⟨h1,L,h2,h3,_,_⟩
  ·cases h
  ·cases h
  ·cases h
  ·exact ⟨h1,h3,L,h2⟩
def msRow (A : Option Addr) (N c : Nat) (A' : Option Addr) (N' c' : Nat) : Obj:=.cells #[.slice A N c,.slice A' N' c'] 22
theorem small_two {old new : List Mo} {A : Option Addr} {c : Nat} {A' : Option Addr} {c' : Nat} {w : World} (ho : SlM w w.heap.size A c old) (hn : SlM w w.heap.size A' c' new) :
  Calls Tryz.prog 12 #[.slice (some ⟨w.heap.size,0,none⟩) 2 2] (w.alloc (msRow A old.length c A' new.length c')) fun e w' => e = .returned (.bool (!greatL old && !greatL new)) ∧ Below w.heap.size w w':=by
 have hb : Below w.heap.size w (w.alloc (msRow A old.length c A' new.length c')):=(Below.refl _ _).alloc (Nat.le_refl _) _
 have hrow : (w.alloc (msRow A old.length c A' new.length c')).heap[w.heap.size]? = some (msRow A old.length c A' new.length c'):=heap_alloc_new _ _
 have h:=small50_any [⟨A,c,old⟩,⟨A',c',new⟩] w.heap.size (w.alloc (msRow A old.length c A' new.length c')) (fun j x hx => by
  match j,hx with
  | 0,hx => simp at hx;subst hx;exact ⟨cell_of_row _ _ 0 _ _ (0,0) hrow,(ho.below hb).keep hb.size (fun _ _ => rfl)⟩
  | 1,hx => simp at hx;subst hx;exact ⟨cell_of_row _ _ 1 _ _ (0,0) hrow,(hn.below hb).keep hb.size (fun _ _ => rfl)⟩
  | j + 2,hx => simp at hx) (by simp) (by simp)
 refine h.mono ?_
 rintro e w' ⟨rfl,hb2⟩
 exact ⟨by simp,hb.trans (hb2.mono hb.size)⟩
end Go.Proofs.YtnfndgmlnoeelaaGreatDoor
/- law50.TestselectSound answers true -/
namespace Go.Proofs.YtnfndgmlnoeelaaGreatDoor
open Go Go.RowKit Go.Proofs Go.Shelf
theorem run_neqV (s : ByteArray) (i : Int) (b : Bool) (e k : Int) (w : World) : (binOp .neq 51 (.agg #[.string s,.int .i64 i,.bool b,.int .i64 e,.int .i64 k]) (.agg #[.string s,.int .i64 i,.bool b,.int .i64 e,.int .i64 k])).run Tryz.prog w = .ok (.bool false) w:=by
 have hm : Tryz.prog.stoodInHeld 51 = false:=by kernel_rfl
 have hm2 : Tryz.prog.stoodInHeld 24 = false:=by kernel_rfl
 rw [run_neq_struct,run_equalIn_struct w 9999 51 _ _ (by kernel_rfl) hm]
 have hf:=Tryz.underlying51
 have hg:=Tryz.underlying24
 cases b <;> simp [Op.eqFields,Program.fieldsOf,hf,hg,hm2,go_sem]
theorem reuse_same {old new : List Mo} {n : ByteArray × Int} (h : ReB old new n) (hn : isT new n = true) : ∃ x y,bodyOf old n = some x ∧ x.kind ≠ 1 ∧ bodyOf new n = some y ∧ y.kind ≠ 1 ∧ chkL old = 0 ∧ chkL new = 0 ∧
  ∀ (m z : Int) (v : Va) (k err : Int) (t : Nat) (v' : Va) (k' err' : Int) (t' : Nat),Ev (lookOf old) m ⟨0,z,[⟨xpOf x,0,n.1,.nil⟩],[]⟩ (v,k,err) t → Ev (lookOf new) m ⟨0,z,[⟨xpOf y,0,n.1,.nil⟩],[]⟩ (v',k',err') t' → (v,k,err) = (v',k',err'):=by
 obtain ⟨ho,s,k1,k2⟩:=h
 have kw : ∀ {l : List Mo},KeyW l n s 0 → loadE l n = 0 ∧ ∃ L,Clo (grf l) n (some L) ∧ s = certT l n L:=by
  intro l hk
  rcases hk with ⟨h1,_,h2⟩ | ⟨_,_,_,h2⟩ | ⟨h1,L,h2,h3,_⟩
  ·exact absurd h2.symm h1
  ·omega
  ·exact ⟨h1,L,h2,h3⟩
 obtain ⟨e1,L,c1,s1⟩:=kw k1
 obtain ⟨e2,L',c2,s2⟩:=kw k2
 have kk : ∀ {l : List Mo},isT l n = true → ∃ x,bodyOf l n = some x ∧ x.kind ≠ 1:=by
  intro l hl
  obtain ⟨x,hx⟩:=isT_body hl
  refine ⟨x,hx,?_⟩
  unfold isT at hl
  rw [hx] at hl
  have : x.kind = 2:=by simpa [tstO] using hl
  omega
 obtain ⟨x,hx,hxk⟩:=kk ho
 obtain ⟨y,hy,hyk⟩:=kk hn
 have hkey : keyL old n L = keyL new n L':=by
  have h:=s1.symm.trans s2
  unfold certT at h
  have h2:=congrArg (fun b : ByteArray => b.data.toList) h
  simpa using h2
 have hcode:=key_code (loadE_zero e1).1 (loadE_zero e2).1 c1 c2 hkey
 refine ⟨x,y,hx,hxk,hy,hyk,(loadE_zero e1).1,(loadE_zero e2).1,fun m z v k err t v' k' err' t' h h' => ?_⟩
 have lx : lookOf old n.1 n.2 = some (xpOf x):=by unfold lookOf;rw [show bodyOf old (n.1,n.2) = some x from hx];rfl
 have ly : lookOf new n.1 n.2 = some (xpOf y):=by unfold lookOf;rw [show bodyOf new (n.1,n.2) = some y from hy];rfl
 have hxy : xpOf x = xpOf y:=Option.some.inj (lx.symm.trans ((hcode n.1 n.2 ((c1.2.1 _).2 .refl)).trans ly))
 rw [← hxy] at h'
 exact suff_same c1 hcode lx h h'
theorem after_drew {w w' : World} (h : Below w.drew.heap.size w.drew w') : Below w.heap.size w w':=(below_drewS (Below.refl _ _)).trans h
def TestQ (l : List Mo) (n : ByteArray × Int) (L z : Int) (x : Xp) (B : Bool) (ee k : Int) : Prop:=∃ (v : Va) (err : Int) (t : Nat),Ev (lookOf l) L ⟨0,z,[⟨x,0,n.1,.nil⟩],[]⟩ (v,k,err) t ∧ verB v err = B ∧ verE v err = ee
theorem TestR.q {l : List Mo} {n : ByteArray × Int} {L z : Int} {x : Xp} {w : World} {e : Ending} {w' : World} (h : TestR l n L z x w e w') : Below w.heap.size w w' ∧ ∃ (B : Bool) (ee k : Int),TestQ l n L z x B ee k ∧ e = .returned (.agg #[.string n.1,.int .i64 n.2,.bool B,.int .i64 ee,.int .i64 k]):=by
 obtain ⟨hb,v,k,err,t,hev,rfl⟩:=h
 exact ⟨hb,verB v err,verE v err,k,⟨v,err,t,hev,rfl,rfl⟩,rfl⟩
set_option maxRecDepth 100000 in
set_option maxHeartbeats 8000000 in
theorem lawSound_any (old new : List Mo) (a z : Int) (A : Option Addr) (c : Nat) (A' : Option Addr) (c' : Nat) (w : World) (ho : SlM w w.heap.size A c old) (hn : SlM w w.heap.size A' c' new) (hwo : MoW old) (hwn : MoW new) (ha : 0 ≤ a ∧ a ≤ 65535) :
  Calls Tryz.prog 5 #[.slice A old.length c,.slice A' new.length c',.agg #[.int .u16 a,.int .u64 z]] w fun e w' => e = .returned (.bool true) ∧ Below w.heap.size w w':=by
 obtain ⟨W0,hW0⟩ : ∃ W0,w.alloc (.cells #[.int .u16 a,.int .u64 z] 45) = W0:=⟨_,rfl⟩
 have hb0 : Below w.heap.size w W0:=by rw [← hW0];exact (Below.refl _ _).alloc (Nat.le_refl _) _
 have hz0 : w.heap.size < W0.heap.size:=by rw [← hW0];simp
 have nb : W0.heap[w.heap.size]? = some (.cells #[.int .u16 a,.int .u64 z] 45 (0,0)):=by rw [← hW0];exact heap_alloc_new _ _
 have n0 : W0.cell? ⟨w.heap.size,0,none⟩ = some (.int .u16 a):=cell_of_row W0 _ 0 _ _ (0,0) nb
 have n1 : W0.cell? ⟨w.heap.size,1,none⟩ = some (.int .u64 z):=cell_of_row W0 _ 1 _ _ (0,0) nb
 have HM:=Lib.hid (show ∀ X : World,Below W0.heap.size W0 X → SlM X X.heap.size A c old ∧ SlM X X.heap.size A' c' new from fun X hX =>
  ⟨((ho.below hb0).below (hX.mono (Nat.le_of_lt hz0))).keep (Nat.le_trans (Nat.le_of_lt hz0) hX.size) fun _ _ => rfl,((hn.below hb0).below (hX.mono (Nat.le_of_lt hz0))).keep (Nat.le_trans (Nat.le_of_lt hz0) hX.size) fun _ _ => rfl⟩)
 have HW:=Lib.hid (And.intro hwo hwn)
 have HB0:=Lib.hid (And.intro hb0 hz0)
 have HS:=Lib.hid (fun (X : World) (hX : Below W0.heap.size W0 X) => small_two (HM.out X hX).1 (HM.out X hX).2)
 obtain ⟨N,HN⟩ : ∃ Q,Hid (old.length = Q):=⟨_,Lib.hid rfl⟩
 obtain ⟨N',HN'⟩ : ∃ Q,Hid (new.length = Q):=⟨_,Lib.hid rfl⟩
 rw [HN.out,HN'.out] at HS ⊢
 clear ho hn hwo hwn hb0 hz0 nb
 obtain ⟨g,Hg⟩ : ∃ Q,Hid ((!greatL old && !greatL new) = Q):=⟨_,Lib.hid rfl⟩
 rw [Hg.out] at HS
 unfold msRow at HS
 have HAW:=Lib.hid (fun (X : World) => awake50_any X)
 have HDONE : Hid (∀ X Y : World,Below W0.heap.size W0 X → Below X.heap.size X Y → Below w.heap.size w Y):=Lib.hid fun X Y hX hY => HB0.out.1.trans ((hX.trans (hY.mono hX.size)).mono (Nat.le_of_lt HB0.out.2))
 go_enter Tryz.func5,Tryz.ntmps5
 go_wp2_with fail
 clear hW0
 go_quiet (fail)
 have hbq : Below W0.heap.size W0 (W0.drewN nq):=below_drewN (Below.refl _ _) _
 generalize W0.drewN nq = W1 at hbq ⊢
 have HSx:=Lib.hid (HS.out W1 hbq)
 have HB1:=Lib.hid hbq
 clear hbq n0 n1
 cases g with
 | false =>
  go_wp2_with fail
  refine HSx.out.mono ?_
  rintro e w2 ⟨rfl,hb2⟩
  have HB2:=Lib.hid (HB1.out.trans (hb2.mono HB1.out.size))
  clear hb2
  go_wp2_with fail
  refine (HAW.out _).mono ?_
  rintro e w3 ⟨rfl,hb3⟩
  have HB3:=Lib.hid (HDONE.out _ _ HB2.out hb3)
  clear hb3
  go_wp2
  go_ret
  exact ⟨rfl,HB3.out⟩
 | true =>
  have HGG:=Lib.hid (show greatL old = false ∧ greatL new = false by
   have:=Hg.out
   simpa using this)
  have HSel:=Lib.hid (show ∀ X : World,Below W0.heap.size W0 X → Calls Tryz.prog 14 #[.slice A N c,.slice A' N' c'] X (SelP old new X) from fun X hX => by
   have:=tsSelect_any old new A c A' c' X (HM.out X hX).1 (HM.out X hX).2 HW.out.1 HW.out.2 HGG.out.1 HGG.out.2
   rwa [HN.out,HN'.out] at this)
  obtain ⟨m,Hm⟩ : ∃ Q,Hid (a % 2001 = Q):=⟨_,Lib.hid rfl⟩
  have hm : 0 ≤ m ∧ m ≤ 2000:=by have:=Hm.out;omega
  have HTE:=Lib.hid (show ∀ (X : World) (n : ByteArray × Int) (x : Dc),Below W0.heap.size W0 X → NOk n → chkL old = 0 → bodyOf old n = some x → x.kind ≠ 1 → Calls Tryz.prog 15 #[.slice A N c,.agg #[.string n.1,.int .i64 n.2],.int .i64 m,.int .u64 z] X (TestR old n m z (xpOf x) X) from fun X n x hX hn hc hx hk => by
   have:=evTest_any old n x A c m z X (HM.out X hX).1 HW.out.1 (by have:=(greatL_le HGG.out.1).1;omega) hn hm.1 (by omega) hc hx hk
   rwa [HN.out] at this)
  have HTE':=Lib.hid (show ∀ (X : World) (n : ByteArray × Int) (x : Dc),Below W0.heap.size W0 X → NOk n → chkL new = 0 → bodyOf new n = some x → x.kind ≠ 1 → Calls Tryz.prog 15 #[.slice A' N' c',.agg #[.string n.1,.int .i64 n.2],.int .i64 m,.int .u64 z] X (TestR new n m z (xpOf x) X) from fun X n x hX hn hc hx hk => by
   have:=evTest_any new n x A' c' m z X (HM.out X hX).2 HW.out.2 (by have:=(greatL_le HGG.out.2).1;omega) hn hm.1 (by omega) hc hx hk
   rwa [HN'.out] at this)
  have HL:=Lib.hid (And.intro hm ha)
  clear hm ha
  go_wp2_with fail
  refine HSx.out.mono ?_
  rintro e w2 ⟨rfl,hb2⟩
  have HB2:=Lib.hid (HB1.out.trans (hb2.mono HB1.out.size))
  clear hb2
  go_wp2_with fail
  refine (HSel.out w2 HB2.out).mono ?_
  rintro e w3 ⟨rA,rc,uA,uc,R,U,f,rfl,hR,hU,hb3,hf,hRe,hUe⟩
  have HB3:=Lib.hid (HB2.out.trans (hb3.mono HB2.out.size))
  have hTU : ∀ n ∈ U,NOk n ∧ isT new n = true ∧ ReB old new n:=fun n hn => by
   rw [hUe] at hn
   obtain ⟨h1,h2⟩:=List.mem_filter.1 hn
   exact ⟨nok_T HW.out.2 h1,(mem_testsOf new n).1 h1,(hf n).1 h2⟩
  have H3:=Lib.hid (And.intro (SlN.of_own hU) hTU)
  have HUl:=Lib.hid (show U.length ≤ 32 by
   rw [hUe]
   have h1:=List.length_filter_le f (testsOf new)
   have h2:=testsOf_len new
   have h3:=greatL_tot HGG.out.2
   omega)
  obtain ⟨M,HMl⟩ : ∃ Q,Hid (U.length = Q):=⟨_,Lib.hid rfl⟩
  have hM32 : M ≤ 32:=by rw [← HMl.out];exact HUl.out
  rw [HMl.out]
  clear hR hU hb3 hf hRe hUe hTU
  generalize R.length = r0
  go_wp2_with fail
  go_loopg [12,31] M (fun g _ ct wr => ∃ j : Nat,g = M - j ∧ j ≤ M ∧ ct = .int .i64 j ∧ Below w3.heap.size w3 wr)
  case atStart => exact ⟨0,rfl,by omega,rfl,Below.refl _ _⟩
  case round =>
   obtain ⟨j,HG,hj,rfl,hB⟩:=hrel
   have hz:=hB.size
   by_cases hlt : j < M
   ·have hlt' : j < U.length:=by rw [HMl.out];exact hlt
    obtain ⟨x,hx⟩ : ∃ x,U[j]? = some x:=⟨_,List.getElem?_eq_getElem hlt'⟩
    obtain ⟨tb,tof,rfl,htb,htc⟩:=H3.out.1.2.2 (by intro e;rw [e] at hlt';simp at hlt')
    obtain ⟨y0,y1⟩:=htc j x hx
    have c0:=(hB.cell (p:=⟨tb,tof + j * 2,none⟩) htb).trans y0
    have c1:=(hB.cell (p:=⟨tb,tof + j * 2 + 1,none⟩) htb).trans y1
    have hj0 : (0 : Int) ≤ (j : Int):=by omega
    have hj1 : (j : Int) < (M : Int):=by omega
    obtain ⟨W7,hW7⟩ : ∃ W7,wr.alloc (.cells #[.string x.1,.int .i64 x.2] 24) = W7:=⟨_,rfl⟩
    have hz7 : wr.heap.size < W7.heap.size:=by subst hW7;simp
    have hb7 : Below wr.heap.size wr W7:=by subst hW7;exact (Below.refl _ _).alloc (Nat.le_refl _) _
    have hq7 : W7.heap[wr.heap.size]? = some (.cells #[.string x.1,.int .i64 x.2] 24 (0,0)):=by subst hW7;exact heap_alloc_new _ _
    have hb37:=hB.trans (hb7.mono hz)
    have HB7:=Lib.hid (HB3.out.trans (hb37.mono HB3.out.size))
    obtain ⟨xo,xn,ho1,ho2,hn1,hn2,ck1,ck2,hsame⟩:=reuse_same (H3.out.2 x (List.mem_of_getElem? hx)).2.2 (H3.out.2 x (List.mem_of_getElem? hx)).2.1
    have hxn:=(H3.out.2 x (List.mem_of_getElem? hx)).1
    have HO:=Lib.hid (fun (X : World) (hX : Below W0.heap.size W0 X) => HTE.out X x xo hX hxn ck1 ho1 ho2)
    have HN2:=Lib.hid (fun (X : World) (hX : Below W0.heap.size W0 X) => HTE'.out X x xn hX hxn ck2 hn1 hn2)
    have HSame:=Lib.hid (show ∀ (B : Bool) (ee k : Int) (B' : Bool) (ee' k' : Int),TestQ old x m z (xpOf xo) B ee k → TestQ new x m z (xpOf xn) B' ee' k' → B = B' ∧ ee = ee' ∧ k = k' from fun B ee k B' ee' k' ⟨v,err,t,h1,h2,h3⟩ ⟨v',err',t',h1',h2',h3'⟩ => by
     have hr:=hsame m z v k err t v' k' err' t' h1 h1'
     simp only [Prod.mk.injEq] at hr
     obtain ⟨rfl,rfl,rfl⟩:=hr
     exact ⟨h2.symm.trans h2',h3.symm.trans h3',rfl⟩)
    have HKP:=Lib.hid (show ∀ X : World,Below W7.heap.size W7 X → X.cell? ⟨wr.heap.size,0,none⟩ = some (.string x.1) ∧ X.cell? ⟨wr.heap.size,1,none⟩ = some (.int .i64 x.2) from fun X hX =>
     have h:=(hX.block wr.heap.size hz7).trans hq7
     ⟨cell_of_row X _ 0 _ _ (0,0) h,cell_of_row X _ 1 _ _ (0,0) h⟩)
    have HT:=Lib.hid (And.intro HG hb37)
    clear HG hB hx htc y0 y1 hb7 hb37 hq7 ho1 ho2 hn1 hn2 ck1 ck2 hsame hxn
    have z0:=(HKP.out W7 (Below.refl _ _)).1
    have z1:=(HKP.out W7 (Below.refl _ _)).2
    go_wp2_with fail
    clear c0 c1
    have hc1 : IntKind.i64.wrap a = a:=IntWalk.i64_in _ (by have:=HL.out.2;omega)
    have hc2 : a.tmod 2001 = m:=by rw [← Hm.out];exact Int.tmod_eq_emod_of_nonneg HL.out.2.1
    have hc3 : IntKind.i64.wrap m = m:=IntWalk.i64_in _ (by have:=HL.out.1;omega)
    have HBd:=Lib.hid (show Below W0.heap.size W0 W7.drew from below_drewS HB7.out)
    have HS0:=Lib.hid (show NameS wr.heap.size x W7.drew from ⟨z0,z1⟩)
    clear z0 z1
    go_region_held3 (fun Y => Y.cell? ⟨wr.heap.size,0,none⟩ = some (.string x.1) ∧ Y.cell? ⟨wr.heap.size,1,none⟩ = some (.int .i64 x.2))
     (focus (first | with_reducible exact HS9.out | with_reducible exact HS8.out | with_reducible exact HS0.out | exact HS9.out | exact HS8.out | exact HS0.out | fail))
     (first
      | (go_at_call 15;(with_reducible refine Calls.mono (HO.out _ HBd.out) ?_);rintro e w8 h8;obtain ⟨hb8,B,ee,k,hq,rfl⟩:=h8.q;have HB8:=Lib.hid (show Below W0.heap.size W0 w8 from HBd.out.trans (hb8.mono HBd.out.size));have HS8:=Lib.hid (show NameS wr.heap.size x w8 from HKP.out w8 (after_drew hb8));have HQ8:=Lib.hid hq;have HA8:=Lib.hid (after_drew hb8);clear h8 hb8 hq)
      | (go_at_call 15;(with_reducible refine Calls.mono (HN2.out _ HB8.out) ?_);rintro e w9 h9;obtain ⟨hb9,B',ee',k',hq,rfl⟩:=h9.q;obtain ⟨e1,e2,e3⟩:=HSame.out _ _ _ _ _ _ HQ8.out hq;subst e1 e2 e3;have hE:=run_neqV x.1 x.2 B ee k;have HB9:=Lib.hid (show Below W7.heap.size W7 w9 from HA8.out.trans (hb9.mono HA8.out.size));have HS9:=Lib.hid (show NameS wr.heap.size x w9 from HKP.out w9 HB9.out);clear h9 hb9 hq)
      | fail)
    clear hE hc1 hc2 hc3
    go_wp2
    go_roundg (M - (j + 1))
    case measure => rw [HT.out.1];omega
    case rel => exact ⟨j + 1,rfl,by omega,by go_num,HT.out.2.trans (HB9.out.mono (by omega))⟩
   ·obtain rfl : j = M:=by omega
    have HB:=Lib.hid (HB3.out.trans (hB.mono HB3.out.size))
    clear hB HG
    go_wp2_with fail
    refine (HAW.out _).mono ?_
    rintro e w9 ⟨rfl,hb9⟩
    have HB9:=Lib.hid (HDONE.out _ _ HB.out hb9)
    clear hb9
    go_wp2
    go_ret
    exact ⟨rfl,HB9.out⟩
end Go.Proofs.YtnfndgmlnoeelaaGreatDoor
