/- lexer.letter, digit, Word -/
import Derived.Test.YtnfndgmlnoeelaaGreatDoorProg
import Derived.Test.YtnfndgmlnoeelaaGreatDoorZla
import Derived.Deep.LoopGhost
import Derived.WalkLawsBesides
import Derived.WalkSpells
import Derived.Laws.RangeAny
import Derived.Test.YtnfndgmlnoeelaaGreatDoorZlb
namespace Go.Proofs.YtnfndgmlnoeelaaGreatDoor
open Go.RowKit Go.Proofs
def letZ (c : Int) : Bool:=decide (97 ≤ c) && decide (c ≤ 122)
def digZ (c : Int) : Bool:=decide (48 ≤ c) && decide (c ≤ 57)
def letB (c : UInt8) : Bool:=letZ c.toNat
def digB (c : UInt8) : Bool:=digZ c.toNat
def restL (l : List UInt8) : Bool:=l.all fun c => letB c || digB c
def wordL : List UInt8 → Bool
 | [] => false
 | c :: r => letB c && restL r
def wordB (s : ByteArray) : Bool:=decide (s.size ≤ 24) && wordL s.data.toList
set_option maxHeartbeats 400000 in
theorem letter_any (c : Int) (w : World) : Calls Tryz.prog 147 #[.int .i32 c] w fun e w' => e = .returned (.bool (letZ c)) ∧ w = w':=by
 by_cases h1 : 97 ≤ c
 ·by_cases h2 : c ≤ 122
  all_goals
   go_enter Tryz.func147,Tryz.ntmps147
   go_wp2
   go_ret
   exact ⟨by simp [letZ,h1,h2],rfl⟩
 ·have h2 : decide (97 ≤ c) = false:=by simpa using h1
  go_enter Tryz.func147,Tryz.ntmps147
  go_wp2
  go_ret
  exact ⟨by simp [letZ];omega,rfl⟩
set_option maxHeartbeats 400000 in
theorem digit_any (c : Int) (w : World) : Calls Tryz.prog 148 #[.int .i32 c] w fun e w' => e = .returned (.bool (digZ c)) ∧ w = w':=by
 by_cases h1 : 48 ≤ c
 ·by_cases h2 : c ≤ 57
  all_goals
   go_enter Tryz.func148,Tryz.ntmps148
   go_wp2
   go_ret
   exact ⟨by simp [digZ,h1,h2],rfl⟩
 ·have h2 : decide (48 ≤ c) = false:=by simpa using h1
  go_enter Tryz.func148,Tryz.ntmps148
  go_wp2
  go_ret
  exact ⟨by simp [digZ];omega,rfl⟩
theorem toList_ne {s : ByteArray} (h : ¬ s.size = 0) : s.toList ≠ []:=by
 rw [ByteArray.toList_eq]
 intro e
 have : s.data.toList.length = 0:=by rw [e];rfl
 exact h (by simpa using this)
theorem toList_nil {s : ByteArray} (h : s.size = 0) : s.toList = []:=by
 rw [ByteArray.toList_eq]
 exact List.eq_nil_of_length_eq_zero (by simpa using h)
def wordFrom (l : List UInt8) (p : Nat) : Bool:=if p = 0 then wordL l else restL (l.drop p)
theorem wordFrom_yes (l : List UInt8) (p : Nat) (c : UInt8) (h : l[p]? = some c) (hc : letB c = true ∨ (p ≠ 0 ∧ digB c = true)) : wordFrom l p = wordFrom l (p + 1):=by
 have hd : l.drop p = c :: l.drop (p + 1):=by
  obtain ⟨hl,e⟩:=List.getElem?_eq_some_iff.1 h
  rw [List.drop_eq_getElem_cons hl,e]
 unfold wordFrom
 rw [if_neg (Nat.succ_ne_zero p)]
 by_cases h0 : p = 0
 ·subst h0
  simp only [List.drop_zero] at hd
  rcases hc with hc | hc
  ·rw [if_pos rfl]
   generalize l.drop (0 + 1) = r at hd
   subst hd
   simp [wordL,hc]
  ·exact absurd rfl hc.1
 ·rw [if_neg h0,hd]
  rcases hc with hc | hc <;> simp [restL,hc]
theorem wordFrom_no (l : List UInt8) (p : Nat) (c : UInt8) (h : l[p]? = some c) (hc : letB c = false) (hd' : p = 0 ∨ digB c = false) : wordFrom l p = false:=by
 have hd : l.drop p = c :: l.drop (p + 1):=by
  obtain ⟨hl,e⟩:=List.getElem?_eq_some_iff.1 h
  rw [List.drop_eq_getElem_cons hl,e]
 unfold wordFrom
 by_cases h0 : p = 0
 ·subst h0
  simp only [List.drop_zero] at hd
  rw [if_pos rfl,hd]
  simp [wordL,hc]
 ·rw [if_neg h0,hd]
  rcases hd' with e | e
  ·exact absurd e h0
  ·simp [restL,hc,e]
theorem wordFrom_end (l : List UInt8) (p : Nat) (h : l.length ≤ p) (h0 : p ≠ 0) : wordFrom l p = true:=by
 unfold wordFrom
 rw [if_neg h0,List.drop_eq_nil_of_le h]
 rfl
theorem getElem_data (s : ByteArray) (p : Nat) (h : p < s.size) : s.data.toList[p]? = some s[p]:=by
 rw [List.getElem?_eq_getElem (by simpa using h)]
 rfl
theorem rune_cases (s : ByteArray) (p : Nat) (h : p < s.size) : ∃ (r n : Nat),Utf8.decode s p = (r,n) ∧
  letB s[p] = letZ r ∧ digB s[p] = digZ r ∧ (letZ r = true ∨ digZ r = true → n = 1):=by
 by_cases ha : (s[p]'h).toNat < 128
 ·exact ⟨_,_,decode_ascii s p h ha,rfl,rfl,fun _ => rfl⟩
 ·obtain ⟨h1,_⟩:=decode_high s p h (by omega)
  have ht:=(s[p]'h).toNat_lt
  have e1 : letB s[p] = false:=by simp [letB,letZ];omega
  have e2 : digB s[p] = false:=by simp [digB,digZ];omega
  have e3 : letZ (Utf8.decode s p).1 = false:=by simp [letZ];omega
  have e4 : digZ (Utf8.decode s p).1 = false:=by simp [digZ];omega
  exact ⟨(Utf8.decode s p).1,(Utf8.decode s p).2,rfl,by rw [e1,e3],by rw [e2,e4],by rw [e3,e4];simp⟩
set_option maxHeartbeats 1000000 in
theorem word_some (s : ByteArray) (w : World) (h0 : ¬ s.size = 0) (h24 : s.size ≤ 24) : Calls Tryz.prog 115 #[.string s] w fun e w' => e = .returned (.bool (wordL s.data.toList)) ∧ Below w.heap.size w w':=by
 have e0 : s.toList.isEmpty = false:=by simpa using toList_ne h0
 have e1 : (s.toList == []) = false:=by simpa using toList_ne h0
 have e2 : decide (24 < (s.size : Int)) = false:=by simp;omega
 have hB : ∀ p,Below w.heap.size w (w.iter s p):=fun p => (Below.refl _ _).alloc (Nat.le_refl _) _
 have HB:=Lib.hid hB
 clear hB
 go_enter Tryz.func115,Tryz.ntmps115
 go_wp2
 go_loopg [] (s.size) (fun g wr => ∃ p,wr = w.iter s p ∧ p ≤ s.size ∧ g = s.size - p ∧ wordL s.data.toList = wordFrom s.data.toList p)
 case atStart => exact ⟨0,rfl,by omega,rfl,rfl⟩
 case round =>
  obtain ⟨p,rfl,hp,HG,HW⟩:=hrel
  have HG':=Lib.hid HG
  clear HG
  have HW':=Lib.hid HW
  clear HW
  by_cases hlt : p < s.size
  ·obtain ⟨r,n,hd,hl,hg,hn⟩:=rune_cases s p hlt
   have hnext:=fun ty => run_next_any (P:=Tryz.prog) w s p ty hlt
   rw [hd] at hnext
   simp only at hnext
   have HC:=Lib.hid (getElem_data s p hlt)
   generalize s[p] = c at hl hg HC
   clear hd
   have again : letB c = true ∨ (p ≠ 0 ∧ digB c = true) → wordL s.data.toList = wordFrom s.data.toList (p + 1):=fun h => HW'.out.trans (wordFrom_yes _ _ _ HC.out h)
   have stop : letB c = false → p = 0 ∨ digB c = false → wordL s.data.toList = false:=fun h h' => HW'.out.trans (wordFrom_no _ _ _ HC.out h h')
   have AG:=Lib.hid (And.intro again stop)
   clear again stop
   by_cases l1 : letZ r = true
   ·obtain rfl : n = 1:=hn (.inl l1)
    have AG':=Lib.hid (AG.out.1 (.inl (hl.trans l1)))
    clear hl hg hn AG HC
    go_wp2_with (first | (go_at_call 147;refine (letter_any _ _).mono ?_;rintro e w' ⟨rfl,rfl⟩) | (go_at_call 148;refine (digit_any _ _).mono ?_;rintro e w' ⟨rfl,rfl⟩))
    go_roundg (s.size - (p + 1))
    case measure => rw [HG'.out];omega
    case rel => exact ⟨p + 1,rfl,by omega,rfl,AG'.out⟩
   ·have l2 : letZ r = false:=by simpa using l1
    clear l1
    by_cases hp0 : p = 0
    ·have AG':=Lib.hid (AG.out.2 (hl.trans l2) (.inl hp0))
     have p1 : ((p : Int) == 0) = true:=by simpa using hp0
     clear hl hg hn AG HC hp0
     go_wp2_with (first | (go_at_call 147;refine (letter_any _ _).mono ?_;rintro e w' ⟨rfl,rfl⟩) | (go_at_call 148;refine (digit_any _ _).mono ?_;rintro e w' ⟨rfl,rfl⟩))
     go_ret
     exact ⟨by rw [AG'.out];rfl,HB.out _⟩
    ·have p1 : ((p : Int) == 0) = false:=by simpa using hp0
     by_cases d1 : digZ r = true
     ·obtain rfl : n = 1:=hn (.inr d1)
      have AG':=Lib.hid (AG.out.1 (.inr ⟨hp0,(hg.trans d1)⟩))
      clear hl hg hn AG HC hp0
      go_wp2_with (first | (go_at_call 147;refine (letter_any _ _).mono ?_;rintro e w' ⟨rfl,rfl⟩) | (go_at_call 148;refine (digit_any _ _).mono ?_;rintro e w' ⟨rfl,rfl⟩))
      go_roundg (s.size - (p + 1))
      case measure => rw [HG'.out];omega
      case rel => exact ⟨p + 1,rfl,by omega,rfl,AG'.out⟩
     ·have d2 : digZ r = false:=by simpa using d1
      have AG':=Lib.hid (AG.out.2 (hl.trans l2) (.inr (hg.trans d2)))
      clear hl hg hn AG HC hp0 d1
      go_wp2_with (first | (go_at_call 147;refine (letter_any _ _).mono ?_;rintro e w' ⟨rfl,rfl⟩) | (go_at_call 148;refine (digit_any _ _).mono ?_;rintro e w' ⟨rfl,rfl⟩))
      go_ret
      exact ⟨by rw [AG'.out];rfl,HB.out _⟩
  ·have hnext:=fun ty => run_next_end (P:=Tryz.prog) w s p ty hlt
   have AG':=Lib.hid (HW'.out.trans (wordFrom_end _ p (by simp;omega) (by omega)))
   go_wp2
   go_ret
   exact ⟨by rw [AG'.out];rfl,HB.out _⟩
set_option maxHeartbeats 400000 in
theorem word_any (s : ByteArray) (w : World) : Calls Tryz.prog 115 #[.string s] w fun e w' => e = .returned (.bool (wordB s)) ∧ Below w.heap.size w w':=by
 by_cases h0 : s.size = 0
 ·have e0 : s.toList.isEmpty = true:=by simpa using toList_nil h0
  have e1 : (s.toList == []) = true:=by simpa using toList_nil h0
  have e2 : wordB s = false:=by
   have:=toList_nil h0
   rw [ByteArray.toList_eq] at this
   simp [wordB,this,wordL]
  have E2:=Lib.hid e2
  clear e2 h0
  go_enter Tryz.func115,Tryz.ntmps115
  go_wp2
  go_ret
  exact ⟨by rw [E2.out];rfl,Below.refl _ _⟩
 by_cases h24 : s.size ≤ 24
 ·exact (word_some s w h0 h24).mono fun e w' ⟨h1,h2⟩ => ⟨by simp [h1,wordB,h24],h2⟩
 ·have e0 : s.toList.isEmpty = false:=by simpa using toList_ne h0
  have e1 : (s.toList == []) = false:=by simpa using toList_ne h0
  have e2 : decide (24 < (s.size : Int)) = true:=by simp;omega
  have e3 : wordB s = false:=by simp [wordB,h24]
  have E3:=Lib.hid e3
  clear e3
  go_enter Tryz.func115,Tryz.ntmps115
  go_wp2
  go_ret
  exact ⟨by rw [E3.out];rfl,Below.refl _ _⟩
end Go.Proofs.YtnfndgmlnoeelaaGreatDoor
/- lexer.Label -/
namespace Go.Proofs.YtnfndgmlnoeelaaGreatDoor
open Go.RowKit Go.Proofs Go.Shelf

attribute [local go_sem] Oper.semAt_some wide_fn wide_depth

def partB (p : ByteArray) : Bool:=decide (p.size ≤ 20) && wordB p
def labelB (s : ByteArray) : Bool:=decide (s.size ≤ 90) && (partsB 47 s).all partB

theorem SplitSeq_any (s sep : ByteArray) (w : World) : Calls Tryz.prog 114 #[.string s,.string sep] w fun e w' =>
  e = .returned (.func (.func 164) #[] #[.pointer (some ⟨w.heap.size + 1,0,none⟩),.pointer (some ⟨w.heap.size,0,none⟩),.pointer (some ⟨w.heap.size + 2,0,none⟩)]) ∧
  ((w.alloc (.cells #[.string s] 9)).alloc (.cells #[.string sep] 9)).alloc (.cells #[.int .i64 0] 3) = w':=by
 have hmf : ∀ (fn : Fn) (first cap : Array Value) (w : World),(Instr.makeFunc fn first cap).run Tryz.prog w = .ok (.func fn first cap) w:=fun _ _ _ _ => rfl
 go_enter Tryz.func114,Tryz.ntmps114
 go_wp2
 go_ret
 exact ⟨rfl,rfl⟩

set_option maxRecDepth 100000 in
set_option maxHeartbeats 1000000 in
theorem label_small (s : ByteArray) (w : World) (h90 : s.size ≤ 90) : Calls Tryz.prog 82 #[.string s] w fun e w' => e = .returned (.bool ((partsB 47 s).all partB)) ∧ Below w.heap.size w w':=by
 have e2 : decide (90 < (s.size : Int)) = false:=by simp;omega
 refine (callsIn_wide (n:=0)).1 ?_
 refine callsIn_of_wp_marks Tryz.func82 rfl trivial ?_ rfl
 simp only [Tryz.ntmps82,List.size_toArray,List.length_cons,List.length_nil,Nat.reduceAdd,Nat.reduceSub,Array.replicate_succ,Array.replicate_zero,List.push_toArray,List.append_toArray,List.nil_append,List.cons_append]
 gi_wp2_with (gi_at_call 114;refine (callsIn_wide.2 (SplitSeq_any _ _ _)).mono ?_;rintro e w' ⟨rfl,rfl⟩)
 obtain ⟨W0,hW0⟩ : ∃ W0,(((w.alloc (.cells #[.bool false] 4)).alloc (.cells #[.string s] 9)).alloc (.cells #[.string ⟨#[47]⟩] 9)).alloc (.cells #[.int .i64 0] 3) = W0:=⟨_,rfl⟩
 have z0 : W0.heap.size = w.heap.size + 4:=by subst hW0;simp
 have b0 : W0.cell? ⟨w.heap.size,0,none⟩ = some (.bool false):=by subst hW0;go_simp
 have b1 : W0.cell? ⟨w.heap.size + 1,0,none⟩ = some (.string s):=by subst hW0;go_simp
 have b2 : W0.cell? ⟨w.heap.size + 1 + 1,0,none⟩ = some (.string ⟨#[47]⟩):=by subst hW0;go_simp
 have b3 : W0.cell? ⟨w.heap.size + 1 + 2,0,none⟩ = some (.int .i64 0):=by subst hW0;go_simp
 have f0 : W0.frozen? ⟨w.heap.size,0,none⟩ = false:=by subst hW0;go_simp
 have f1 : W0.frozen? ⟨w.heap.size + 1,0,none⟩ = false:=by subst hW0;go_simp
 have hB0 : Below w.heap.size w W0:=by rw [← hW0];exact ((((Below.refl _ _).alloc (Nat.le_refl _) _).alloc (by simp) _).alloc (by simp;omega) _).alloc (by simp;omega) _
 rw [hW0]
 clear hW0
 have hit:=splitSeq1_iter 47 s (w.heap.size + 1) (w.heap.size + 1 + 1) (w.heap.size + 1 + 2) W0 b1 b2 b3 f1 (by omega) (by omega) (by omega)
 refine wpIn_range (P:=Tryz.prog) (w0:=W0) (gf:=164) rfl (fun args w => Tryz.call164 args w) hit (Keeps.refl _ _) (fun _ => rfl) (Nat.zero_le _) (by rintro k (rfl | rfl | rfl) <;> omega)
  (fun pre W => W.cell? ⟨w.heap.size,0,none⟩ = some (.bool false) ∧ W.frozen? ⟨w.heap.size,0,none⟩ = false ∧ pre.all partB = true ∧ Below w.heap.size w W)
  (fun c pre W => c = .ret ∧ W.cell? ⟨w.heap.size,0,none⟩ = some (.bool false) ∧ (partsB 47 s).all partB = false ∧ Below w.heap.size w W)
  ?told1 ?told2 (fun _ _ _ => trivial) ⟨b0,f0,rfl,hB0⟩
  (fun x => { tmps:=#[.string s,undef,.pointer (some ⟨w.heap.size,0,none⟩),.string x,.string s,.int .i64 s.size,.bool false,.string s,.func (.func 164) #[] #[.pointer (some ⟨w.heap.size + 1 + 1,0,none⟩),.pointer (some ⟨w.heap.size + 1,0,none⟩),.pointer (some ⟨w.heap.size + 1 + 2,0,none⟩)],.string x,undef,undef,undef,undef,undef,undef,undef,undef],defers:=[] })
  ?assign ?body ?done ?stop
 case told1 =>
  intro pre X Y ⟨h1,h2,h3,h4⟩ hk
  have hl : w.heap.size < X.heap.size:=World.block_lt_of_cell? X ⟨w.heap.size,0,none⟩ h1
  refine ⟨hk.cell (p:=⟨w.heap.size,0,none⟩) ⟨by simp;omega,by simp;omega⟩ h1,(hk.frozen (p:=⟨w.heap.size,0,none⟩) hl ⟨by simp;omega,by simp;omega⟩).trans h2,h3,h4.trans (hk.to_below (by omega) fun k hk => ⟨by omega,by omega⟩)⟩
 case told2 =>
  intro c pre X Y ⟨h0,h1,h3,h4⟩ hk
  have hl : w.heap.size < X.heap.size:=World.block_lt_of_cell? X ⟨w.heap.size,0,none⟩ h1
  refine ⟨h0,hk.cell (p:=⟨w.heap.size,0,none⟩) ⟨by simp;omega,by simp;omega⟩ h1,h3,h4.trans (hk.to_below (by omega) fun k hk => ⟨by omega,by omega⟩)⟩
 case assign =>
  intro l x W K hK
  gi_wp2
  exact hK
 case body =>
  rintro l pre x W hpre ⟨h1,h2,h3,h4⟩ hsz
  have stop : partB x = false → (partsB 47 s).all partB = false:=by
   intro h
   obtain ⟨r,hr⟩:=hpre
   rw [← hr,List.all_append,List.all_append]
   simp [h]
  have goes : partB x = true → (pre ++ [x]).all partB = true:=fun h => by simp [List.all_append,h3,h]
  have HH:=Lib.hid (And.intro stop (And.intro goes h3))
  have HS:=Lib.hid h4
  clear stop goes h3 hpre hit b0 b1 b2 b3 f0 f1 hB0 h4
  by_cases h20 : 20 < x.size
  ·have hd : decide (20 < (x.size : Int)) = true:=by simp;omega
   have hp:=Lib.hid (HH.out.1 (by simp [partB];omega))
   gi_wp2
   exact ⟨(Keeps.refl _ _).setCell (by simp;omega) _,rfl,World.cell?_setCell_same' _ _ _ (by rw [h1];rfl),hp.out,HS.out.setCell (Nat.le_refl _) _⟩
  ·have hd : decide (20 < (x.size : Int)) = false:=by simp;omega
   by_cases hw : wordB x = true
   ·have hp:=Lib.hid (HH.out.2.1 (by simp [partB,hw];omega))
    gi_wp2_with (gi_at_call 115;refine (CallsIn.inRound l (callsIn_wide.2 (word_any _ _))).mono ?_;rintro e w' ⟨rfl,hb⟩)
    exact ⟨Keeps.whole hb _,(hb.cell (p:=⟨w.heap.size,0,none⟩) (by simp;omega)).trans h1,(hb.frozen (p:=⟨w.heap.size,0,none⟩) (by simp;omega)).trans h2,hp.out,HS.out.trans (hb.mono (by omega))⟩
   ·have hw' : wordB x = false:=by simpa using hw
    have hp:=Lib.hid (HH.out.1 (by simp [partB,hw']))
    clear hw
    gi_wp2_with (gi_at_call 115;refine (CallsIn.inRound l (callsIn_wide.2 (word_any _ _))).mono ?_;rintro e w' ⟨rfl,hb⟩;have k1:=(hb.cell (p:=⟨w.heap.size,0,none⟩) (by simp;omega)).trans h1;have k2:=(hb.frozen (p:=⟨w.heap.size,0,none⟩) (by simp;omega)).trans h2)
    exact ⟨(Keeps.whole hb _).setCell (by simp;omega) _,rfl,World.cell?_setCell_same' _ _ _ (by rw [k1];rfl),hp.out,(HS.out.trans (hb.mono (by omega))).setCell (Nat.le_refl _) _⟩
 case done =>
  rintro D W hD ⟨h1,h2,h3,h4⟩ hK
  have H3:=Lib.hid h3
  clear h3
  gi_wp2
  have hs : (W.setCell ⟨w.heap.size,0,none⟩ (.bool true)).cell? ⟨w.heap.size,0,none⟩ = some (.bool true):=World.cell?_setCell_same' _ _ _ (by rw [h1];rfl)
  have hK' : (W.setCell ⟨w.heap.size,0,none⟩ (.bool true)).heap[D]? = some (.deferred (some [])):=(Below.heap_setCell _ _ _ _ (by simp;omega)).trans hK
  have hc:=cell_putObj (o':=.deferred none) hK' rfl hs
  refine ret_mark (v:=.bool true) hK' ?_ ⟨by rw [H3.out],below_putObj (h4.setCell (Nat.le_refl _) _) (by omega) _⟩
  simp [results,Tryz.results82,go_sem,hc]
 case stop =>
  rintro D c pre W hD hpre ⟨rfl,h1,h3,h4⟩ hK
  have H3:=Lib.hid h3
  clear h3
  gi_wp2
  have hc:=cell_putObj (o':=.deferred none) hK rfl h1
  refine ret_mark (v:=.bool false) hK ?_ ⟨by rw [H3.out],below_putObj h4 (by omega) _⟩
  simp [results,Tryz.results82,go_sem,hc]

theorem label_any (s : ByteArray) (w : World) : Calls Tryz.prog 82 #[.string s] w fun e w' => e = .returned (.bool (labelB s)) ∧ Below w.heap.size w w':=by
 by_cases h90 : s.size ≤ 90
 ·exact (label_small s w h90).mono fun e w' ⟨h1,h2⟩ => ⟨by simp [h1,labelB,h90],h2⟩
 ·have e2 : decide (90 < (s.size : Int)) = true:=by simp;omega
  have e3:=Lib.hid (show labelB s = false by simp [labelB,h90])
  go_enter Tryz.func82,Tryz.ntmps82
  go_wp2
  refine bodyPost_ret (v:=.bool false) (by simp [results,Tryz.results82,go_sem]) rfl ⟨by rw [e3.out],?_⟩
  exact (Below.refl _ _).alloc (Nat.le_refl _) _
end Go.Proofs.YtnfndgmlnoeelaaGreatDoor
/- syntax.name, shapeOf, checkNumbers, checkNames, checkNode -/
namespace Go.Proofs.YtnfndgmlnoeelaaGreatDoor
open Go.RowKit Go.Proofs

def reserved : List (List UInt8):=[[99,97,115,101],[99,104,97,110,99,101],[99,111,110,102,108,105,99,116],[101,108,115,101],[102,97,108,115,101],[102,108,97,107,121],[102,117,110],[105,102],[105,110],
 [108,101,116],[110,105,108],[111,102],[112,117,98],[116,101,115,116],[116,104,101,110],[116,114,117,101],[117,115,101]]
def resB (l : List UInt8) : Bool:=reserved.any fun r => l == r
def nameB (s : ByteArray) : Bool:=!resB s.toList && wordB s

set_option maxHeartbeats 1000000 in
theorem name_any (s : ByteArray) (w : World) : Calls Tryz.prog 167 #[.string s] w fun e w' => e = .returned (.bool (nameB s)) ∧ Below w.heap.size w w':=by
 go_enter Tryz.func167,Tryz.ntmps167
 go_wp2_with (go_at_call 115;refine (word_any _ _).mono ?_;rintro e w' ⟨rfl,hb⟩)
 all_goals go_ret
 all_goals first
  | (exfalso;simp_all;done)
  | (refine ⟨?_,Below.refl _ _⟩;simp [nameB,resB,reserved, *];done)
  | (refine ⟨?_,by assumption⟩;simp [nameB,resB,reserved, *];done)
end Go.Proofs.YtnfndgmlnoeelaaGreatDoor
/- syntax.shapeOf -/
namespace Go.Proofs.YtnfndgmlnoeelaaGreatDoor
open Go.RowKit Go.Proofs
def shapeZ (k : Int) : Int × Int × Int × Bool:=
 if k = 1 then (0,1,0,true) else if k = 2 then (0,1,0,true) else if k = 3 then (1,0,0,true) else if k = 4 then (2,0,0,true) else if k = 5 then (1,1,0,true) else if k = 6 then (1,0,1,true) else if k = 7 then (0,0,2,true) else if k = 12 then (0,0,2,true) else if k = 8 then (1,0,2,true) else if k = 10 then (1,0,2,true) else if k = 9 then (0,0,3,true) else if k = 15 then (0,0,3,true) else if k = 11 then (0,0,0,true) else if k = 13 then (2,0,3,true) else if k = 14 then (0,2,0,true) else (0,0,0,false)
def knownZ (k : Int) : Prop:=k = 1 ∨ k = 2 ∨ k = 3 ∨ k = 4 ∨ k = 5 ∨ k = 6 ∨ k = 7 ∨ k = 12 ∨ k = 8 ∨ k = 10 ∨ k = 9 ∨ k = 15 ∨ k = 11 ∨ k = 13 ∨ k = 14
theorem shapeZ_no {k : Int} (h : ¬ knownZ k) : shapeZ k = (0,0,0,false):=by
 unfold knownZ at h
 unfold shapeZ
 repeat rw [if_neg (by omega)]
set_option maxHeartbeats 1000000 in
theorem shapeOf_any (k a b c : Int) (ok : Bool) (w : World) (h : shapeZ k = (a,b,c,ok)) : Calls Tryz.prog 170 #[.int .i64 k] w fun e w' =>
  e = .returned (.tuple #[.agg #[.int .i64 a,.int .i64 b,.int .i64 c],.bool ok]) ∧ Below w.heap.size w w':=by
 have HB:=Lib.hid (fun o => (Below.refl w.heap.size w).alloc (Nat.le_refl _) o)
 by_cases hk : knownZ k
 ·unfold knownZ at hk
  rcases hk with rfl | rfl | rfl | rfl | rfl | rfl | rfl | rfl | rfl | rfl | rfl | rfl | rfl | rfl | rfl
  all_goals
   simp only [shapeZ,Int.reduceEq,if_true,if_false,Prod.mk.injEq] at h
   obtain ⟨rfl,rfl,rfl,rfl⟩:=h
   go_enter Tryz.func170,Tryz.ntmps170
   go_wp2
   exact bodyPost_ret (by simp [results,Tryz.results170,go_sem]) rfl ⟨rfl,HB.out _⟩
 ·rw [shapeZ_no hk] at h
  simp only [Prod.mk.injEq] at h
  obtain ⟨rfl,rfl,rfl,rfl⟩:=h
  unfold knownZ at hk
  have HK:=Lib.hid hk
  clear hk
  have n1 : (k == 1) = false:=by have:=HK.out;simp;omega
  have n2 : (k == 2) = false:=by have:=HK.out;simp;omega
  have n3 : (k == 3) = false:=by have:=HK.out;simp;omega
  have n4 : (k == 4) = false:=by have:=HK.out;simp;omega
  have n5 : (k == 5) = false:=by have:=HK.out;simp;omega
  have n6 : (k == 6) = false:=by have:=HK.out;simp;omega
  have n7 : (k == 7) = false:=by have:=HK.out;simp;omega
  have n12 : (k == 12) = false:=by have:=HK.out;simp;omega
  have n8 : (k == 8) = false:=by have:=HK.out;simp;omega
  have n10 : (k == 10) = false:=by have:=HK.out;simp;omega
  have n9 : (k == 9) = false:=by have:=HK.out;simp;omega
  have n15 : (k == 15) = false:=by have:=HK.out;simp;omega
  have n11 : (k == 11) = false:=by have:=HK.out;simp;omega
  have n13 : (k == 13) = false:=by have:=HK.out;simp;omega
  have n14 : (k == 14) = false:=by have:=HK.out;simp;omega
  go_enter Tryz.func170,Tryz.ntmps170
  go_wp2
  exact bodyPost_ret (by simp [results,Tryz.results170,go_sem]) rfl ⟨rfl,HB.out _⟩
end Go.Proofs.YtnfndgmlnoeelaaGreatDoor
/- syntax.checkNumbers -/
namespace Go.Proofs.YtnfndgmlnoeelaaGreatDoor
open Go.RowKit Go.Proofs
def numB (k i d : Int) : Bool:=
 if k = 1 then decide (-999999999 ≤ i) && decide (i ≤ 999999999) else if k = 2 then i == 0 || i == 1 else if k = 5 then decide (1 ≤ i) && decide (i ≤ 999999) else
 if k = 14 then decide (1 ≤ d) && decide (d ≤ 999999) && decide (0 ≤ i) && decide (i ≤ d) else true
def numE (k i d : Int) : Int:=if numB k i d then 0 else 2
set_option maxHeartbeats 1000000 in
theorem checkNumbers_any (k : Int) (n m : ByteArray) (i d : Int) (v : Value) (w : World) : Calls Tryz.prog 172 #[.agg #[.int .i64 k,.string n,.string m,.int .i64 i,.int .i64 d,v]] w fun e w' =>
  e = .returned (.int .i64 (numE k i d)) ∧ Below w.heap.size w w':=by
 have HB:=Lib.hid (fun o => (Below.refl w.heap.size w).alloc (Nat.le_refl _) o)
 by_cases hk : k = 1 ∨ k = 2 ∨ k = 5 ∨ k = 14
 ·rcases hk with rfl | rfl | rfl | rfl
  all_goals
   go_enter Tryz.func172,Tryz.ntmps172
   go_wp2
  all_goals go_ret
  all_goals refine ⟨ret_int ?_,HB.out _⟩
  all_goals simp [numE,numB]
  all_goals (try simp_all)
  all_goals (try omega)
 ·have HK:=Lib.hid hk
  have n1 : (k == 1) = false:=by simp;omega
  have n2 : (k == 2) = false:=by simp;omega
  have n5 : (k == 5) = false:=by simp;omega
  have n14 : (k == 14) = false:=by simp;omega
  clear hk
  go_enter Tryz.func172,Tryz.ntmps172
  go_wp2
  go_ret
  refine ⟨ret_int ?_,HB.out _⟩
  have:=HK.out
  have e : numB k i d = true:=by
   unfold numB
   rw [if_neg (by omega),if_neg (by omega),if_neg (by omega),if_neg (by omega)]
  simp [numE,e]
end Go.Proofs.YtnfndgmlnoeelaaGreatDoor
