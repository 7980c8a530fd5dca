/- The walk of cond's cutLeft: a text without the bytes of a set at its begin. -/
import Derived.Test.YtmngkcpobmhnoaaGreatDoorKEnv
import Derived.Test.YtmngkcpobmhnoaaGreatDoorProg
import Derived.WalkKit
import Derived.LoopTactic
import Derived.Lib.OthersKept
set_option linter.all false
namespace Go.Proofs.YtmngkcpobmhnoaaGreatDoor.Sim
open Go.Proofs Go.RowKit

theorem iterPos_of {w : World} {k : Nat} {s : ByteArray} {p : Nat} (h : w.heap[k]? = some (.stringIter s p)) : w.iterPos k = p := by simp [World.iterPos, h]
theorem width_pos (s : ByteArray) (pos : Nat) (h : pos < s.size) : 1 ≤ (Utf8.decode s pos).2 := by
 by_cases ha : (s[pos]'h).toNat < 128
 ·rw [decode_ascii s pos h ha]
  exact Nat.le_refl _
 ·exact (decode_high s pos h (by omega)).2

theorem cutLeftS_drop (s t : ByteArray) (pos : Nat) (h : pos < s.size) :
  s.data.toList.drop pos = s[pos]'h :: s.data.toList.drop (pos + 1) := by
 have h' : pos < s.data.toList.length := by simpa using h
 rw [List.drop_eq_getElem_cons h']
 rfl
theorem cutLeftS_in {c : UInt8} {r t : List UInt8} (h : t.contains c = true) : cutLeftS (c :: r) t = cutLeftS r t := by simp only [cutLeftS, List.dropWhile_cons, h, if_true]
theorem cutLeftS_out {c : UInt8} {r t : List UInt8} (h : t.contains c = false) : cutLeftS (c :: r) t = c :: r := by simp only [cutLeftS, List.dropWhile_cons, h]; rfl

def inSet (t : ByteArray) (q : Nat) (c : Nat) : Bool := (t.data.toList.take q).any fun d => d.toNat == c
theorem inSet_0 (t : ByteArray) (c : Nat) : inSet t 0 c = false := by simp [inSet]
theorem inSet_succ (t : ByteArray) (q : Nat) (c : Nat) (h : q < t.size) : inSet t (q + 1) c = (inSet t q c || (t[q]'h).toNat == c) := by
 have h' : q < t.data.toList.length := by simpa using h
 unfold inSet
 rw [List.take_succ_eq_append_getElem h', List.any_append]
 simp
 rfl
theorem inSet_all (t : ByteArray) (q c : Nat) (h : ¬ q < t.size) : inSet t q c = t.data.toList.any fun d => d.toNat == c := by
 have h' : t.data.toList.length ≤ q := by simpa using Nat.le_of_not_lt h
 unfold inSet
 rw [List.take_of_length_le h']

theorem cut_out (s t : ByteArray) (pos : Nat) (hp : pos < s.size) (ht : ∀ (j : Nat) (h : j < t.size), (t[j]'h).toNat < 128)
  (h : (t.data.toList.any fun d => d.toNat == (Utf8.decode s pos).1) = false) : cutLeftS (s.data.toList.drop pos) t.data.toList = s.data.toList.drop pos := by
 rw [cutLeftS_drop s t pos hp]
 refine cutLeftS_out (Bool.eq_false_iff.2 fun hc => ?_)
 have hm : s[pos]'hp ∈ t.data.toList := by simpa using hc
 obtain ⟨j, hj, e⟩ := List.getElem_of_mem hm
 have hj' : j < t.size := by simpa using hj
 have e' : t[j]'hj' = s[pos]'hp := e
 have h1 : (s[pos]'hp).toNat < 128 := by rw [← e']; exact ht j hj'
 rw [decode_ascii s pos hp h1] at h
 have := List.any_eq_false.1 h _ hm
 simp at this
theorem cut_in (s t : ByteArray) (pos : Nat) (hp : pos < s.size) (ht : ∀ (j : Nat) (h : j < t.size), (t[j]'h).toNat < 128)
  (h : (t.data.toList.any fun d => d.toNat == (Utf8.decode s pos).1) = true) : cutLeftS (s.data.toList.drop pos) t.data.toList = cutLeftS (s.data.toList.drop (pos + (Utf8.decode s pos).2)) t.data.toList := by
 obtain ⟨d, hm, e⟩ := List.any_eq_true.1 h
 obtain ⟨j, hj, e1⟩ := List.getElem_of_mem hm
 have hj' : j < t.size := by simpa using hj
 have e2 : t[j]'hj' = d := e1
 have h0 := ht j hj'
 rw [e2] at h0
 have e3 : d.toNat = (Utf8.decode s pos).1 := by simpa using e
 by_cases h1 : (s[pos]'hp).toNat < 128
 ·rw [decode_ascii s pos hp h1] at e3 ⊢
  have e4 : d = s[pos]'hp := UInt8.toNat_inj.1 e3
  rw [cutLeftS_drop s t pos hp]
  refine cutLeftS_in ?_
  rw [← e4]; simpa using hm
 ·have := (decode_high s pos hp (by omega)).1
  omega

set_option maxRecDepth 1000000 in
set_option maxHeartbeats 2000000 in
theorem cutLeft_walk (s t : ByteArray) (w : World) (ht : ∀ (j : Nat) (h : j < t.size), (t[j]'h).toNat < 128) (hs : s.size < 4294967281) :
  Calls Tryz.prog F_cond_cutLeft #[.string s, .string t] w fun e w' => e = .returned (.string ⟨(cutLeftS s.data.toList t.data.toList).toArray⟩) ∧ Below w.heap.size w w' := by
 go_enter Tryz.func42, Tryz.ntmps42
 go_wp2
 go_loopw [] (fun wr => ∃ (pos : Nat), wr.heap[w.heap.size]? = some (.stringIter s pos) ∧ Below w.heap.size w wr ∧ Hid (cutLeftS s.data.toList t.data.toList = cutLeftS (s.data.toList.drop pos) t.data.toList)) (fun wr => s.size - wr.iterPos w.heap.size)
 case atStart => exact ⟨0, World.iter_heap w s 0, (Below.refl _ _).alloc (Nat.le_refl _) _, rfl⟩
 case round =>
  obtain ⟨pos, hit, hbw, HS⟩ := hrel
  have hpos0 := iterPos_of hit
  by_cases hp : pos < s.size
  ·have hnx : ∀ ty, (Instr.next (.pointer (some ⟨w.heap.size, 0, none⟩)) true ty).run Tryz.prog wr = _ := fun ty => Lib.run_next_any_at wr w.heap.size s pos ty hit hp
   have hwd := width_pos s pos hp
   have hit2 := Lib.iterAt_heap wr w.heap.size s pos (pos + (Utf8.decode s pos).2) hit
   have hbw2 := Lib.below_iterAt hbw (k := w.heap.size) (Nat.le_refl _) s (pos + (Utf8.decode s pos).2)
   obtain ⟨W1, hW1⟩ : ∃ W1, W1 = wr.iterAt w.heap.size s (pos + (Utf8.decode s pos).2) := ⟨_, rfl⟩
   rw [← hW1] at hnx hit2 hbw2
   clear hW1 hit hbw
   go_wp2
   go_loopw [7] (fun v wi => ∃ (q : Nat), wi.heap[W1.heap.size]? = some (.stringIter t q) ∧ wi.heap[w.heap.size]? = some (.stringIter s (pos + (Utf8.decode s pos).2)) ∧ Below w.heap.size w wi ∧ v = .bool (inSet t q (Utf8.decode s pos).1)) (fun _ wi => t.size - wi.iterPos W1.heap.size)
   case atStart => exact ⟨0, World.iter_heap W1 t 0, (Below.heap_alloc _ _ _ (lt_of_block hit2)).trans hit2, hbw2.alloc (hbw2.size) _, by rw [inSet_0]⟩
   case round =>
    obtain ⟨q, hjt, hjs, hbi, rfl⟩ := hrel
    have hq0 := iterPos_of hjt
    by_cases hq : q < t.size
    ·have hnx : ∀ ty, (Instr.next (.pointer (some ⟨W1.heap.size, 0, none⟩)) true ty).run Tryz.prog wr = _ := fun ty => Lib.run_next_ascii_at wr W1.heap.size t q ty hjt hq (ht q hq)
     have hjt2 := Lib.iterAt_heap wr W1.heap.size t q (q + 1) hjt
     have hjs2 := (Lib.iterAt_other wr W1.heap.size w.heap.size t (q + 1) (Nat.ne_of_lt (lt_of_block hit2))).trans hjs
     have hbi2 := Lib.below_iterAt hbi (k := W1.heap.size) hbw2.size t (q + 1)
     obtain ⟨W2, hW2⟩ : ∃ W2, W2 = wr.iterAt W1.heap.size t (q + 1) := ⟨_, rfl⟩
     rw [← hW2] at hnx hjt2 hjs2 hbi2
     clear hW2 hjt hjs hbi
     have HI : Hid (inSet t (q + 1) (Utf8.decode s pos).1 = (inSet t q (Utf8.decode s pos).1 || (t[q]'hq).toNat == (Utf8.decode s pos).1)) := inSet_succ t q _ hq
     generalize inSet t q (Utf8.decode s pos).1 = b at HI
     generalize (t[q]'hq).toNat = d at HI hnx
     generalize (Utf8.decode s pos).1 = c at HI hnx
     cases b
     ·go_wp2
      all_goals go_roundw
      case rel => exact ⟨q + 1, hjt2, hjs2, hbi2, by rw [HI.out, Bool.false_or]; congr 1; rw [Bool.eq_iff_iff, beq_iff_eq, beq_iff_eq]; omega⟩
      case measure => rw [iterPos_of hjt2, hq0]; omega
     ·go_wp2
      all_goals go_roundw
      case rel => exact ⟨q + 1, hjt2, hjs2, hbi2, by rw [HI.out]; rfl⟩
      case measure => rw [iterPos_of hjt2, hq0]; omega
    ·have hnx : ∀ ty, (Instr.next (.pointer (some ⟨W1.heap.size, 0, none⟩)) true ty).run Tryz.prog wr = _ := fun ty => Lib.run_next_end_at wr W1.heap.size t q ty hjt hq
     have HI : Hid (inSet t q (Utf8.decode s pos).1 = t.data.toList.any fun d => d.toNat == (Utf8.decode s pos).1) := inSet_all t q _ hq
     generalize inSet t q (Utf8.decode s pos).1 = b at HI
     cases b
     ·go_wp2
      go_ret
      refine ⟨?_, hbi⟩
      rw [HS.out, cut_out s t pos hp ht HI.out.symm]
      have e : s.extract pos s.size = ⟨(s.data.toList.drop pos).toArray⟩ := by
       apply ByteArray.ext
       apply Array.toList_inj.1
       have h' : s.data.toList.length = s.size := by simp
       simp [List.extract_eq_take_drop]
       rw [List.take_of_length_le (by simp)]
      rw [← e]; rfl
     ·go_wp2
      go_roundw
      case rel => exact ⟨_, hjs, hbi, HS.out.trans (cut_in s t pos hp ht HI.out.symm)⟩
      case measure => rw [iterPos_of hjs, hpos0]; omega
  ·have hnx : ∀ ty, (Instr.next (.pointer (some ⟨w.heap.size, 0, none⟩)) true ty).run Tryz.prog wr = _ := fun ty => Lib.run_next_end_at wr w.heap.size s pos ty hit hp
   go_wp2
   go_ret
   have h' : s.data.toList.length ≤ pos := by simpa using Nat.le_of_not_lt hp
   have e := HS.out
   rw [List.drop_of_length_le h'] at e
   rw [e]
   exact ⟨rfl, hbw⟩
end Go.Proofs.YtmngkcpobmhnoaaGreatDoor.Sim
