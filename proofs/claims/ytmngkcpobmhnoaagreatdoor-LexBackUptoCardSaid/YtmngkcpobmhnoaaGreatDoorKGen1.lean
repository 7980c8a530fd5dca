/- The rules in bundles; oracles' typed forms; ranges over functions. -/
import Derived.Test.YtmngkcpobmhnoaaGreatDoorKEnv
import Derived.Test.YtmngkcpobmhnoaaGreatDoorKGen0
set_option linter.all false
namespace Go.Proofs.YtmngkcpobmhnoaaGreatDoor.Sim

section
variable {h : Heap}
theorem chunk_0 {es : Nat} {cs : List PV} : chunk es 0 cs = [] := nr rfl
theorem chunk_1 {es : Nat} {cs : List PV} : chunk es 1 cs = [cs.take es] := nr rfl
theorem chunk_2 {es : Nat} {cs : List PV} : chunk es 2 cs = [cs.take es, (cs.drop es).take es] := nr rfl
theorem chunk_3 {es : Nat} {cs : List PV} : chunk es 3 cs = [cs.take es, (cs.drop es).take es, ((cs.drop es).drop es).take es] := nr rfl
theorem chunk_4 {es : Nat} {cs : List PV} : chunk es 4 cs = [cs.take es, (cs.drop es).take es, ((cs.drop es).drop es).take es, (((cs.drop es).drop es).drop es).take es] := nr rfl
def tg (b : Bool) (o : Option Bool) : Option Bool := match o with
  | some c => some (b && c)
  | none => none
theorem tg_some {b c : Bool} : tg b (some c) = some (b && c) := nr rfl
theorem tags_0 : tagsEq [] [] [] = some true := nr rfl
theorem tags_int {k k' : IntKind} {a b : Int} {ts : List TypeDesc} {xs ys : List PV} : tagsEq (.int k :: ts) (.int k' a :: xs) (.int k' b :: ys) = tg (a == b) (tagsEq ts xs ys) := by
  simp only [tagsEq, tagEq, if_true, tg]; cases tagsEq ts xs ys <;> rfl
theorem tags_bool {a b : Bool} {ts : List TypeDesc} {xs ys : List PV} : tagsEq (.bool :: ts) (.bool a :: xs) (.bool b :: ys) = tg (a == b) (tagsEq ts xs ys) := by
  simp only [tagsEq, tagEq, tg]; cases tagsEq ts xs ys <;> rfl
theorem tags_str {a b : List UInt8} {ts : List TypeDesc} {xs ys : List PV} : tagsEq (.string :: ts) (.str a :: xs) (.str b :: ys) = tg (a == b) (tagsEq ts xs ys) := by
  simp only [tagsEq, tagEq, tg]; cases tagsEq ts xs ys <;> rfl
theorem putall_0 {f : Fr} : putAll f [] [] = f := nr rfl
theorem putall_1 {f : Fr} {t : Nat} {ts : List Nat} {v : PV} {vs : List PV} : putAll f (t :: ts) (v :: vs) = putAll (f.put t v) ts vs := nr rfl
theorem some_exr {a : LoopRec} {P : LoopRec → Prop} : (∃ r, some a = some r ∧ P r) = P a := by
  apply propext; constructor
  · rintro ⟨w, e, h⟩; cases e; exact h
  · intro h; exact ⟨a, rfl, h⟩
theorem nb_ready : (notBusy .ready = true) = True := by simp [notBusy]
theorem nb_done : (notBusy .done = true) = True := by simp [notBusy]
theorem pend_none {κ : Kt} : pendQ κ none = κ.N := nr rfl
theorem pend_exit {κ : Kt} {i : Nat} : pendQ κ (some (.exit i)) = κ.B i := nr rfl
theorem pend_ret {κ : Kt} : pendQ κ (some .ret) = κ.R := nr rfl
end

theorem wq_joinF {E : Env} {c : RCode} {B : Nat → K} {N0 R : K} {f : Fr} {h : Heap} {t : Blk (⟨N0, B, R⟩ : Kt)} (Q : (Fr → Prop) → Prop) (h1 : ∀ X : K, Q (fun f' => X f' h) → Wq E c ⟨X, B, R⟩ .mk f h) (h2 : Q (fun f' => N0 f' h)) : Wq E c ⟨N0, B, R⟩ t f h := h1 N0 h2

theorem lq_range {E : Env} {κ : Kt} {f : Fr} {h : Heap} {t : Blk κ} {g : Opd} {ps : List Nat} {as body : RCode} {k : FuncId} {first cap : List PV} {np nt : Nat} {rs : List RRes} {bd : RCode} (hR : E.fn k = some ⟨np, nt, rs, bd⟩) (hg : g.ev f = .func k first cap) (hl : (first ++ [PV.yield h.n] ++ cap).length = np)
    (hw : ∀ tm : Fr, tm = f → Wq E bd ⟨fun f' h' => ∃ v, outR rs f' h' = some v ∧ ∃ r, h'.loop h.n = some r ∧ (notBusy r.state = true ∧ pendQ κ r.pending f (h'.setLoop h.n { r with state := .exhausted })), fun _ _ _ => False,
      fun f' h' => ∃ v, outR rs f' h' = some v ∧ ∃ r, h'.loop h.n = some r ∧ (notBusy r.state = true ∧ pendQ κ r.pending f (h'.setLoop h.n { r with state := .exhausted }))⟩ .mk (frameOf (first ++ [PV.yield h.n] ++ cap) 0) (h.newLoop ⟨.ready, none, tm, ps, as, body⟩)) :
    Lq E (.rangeFunc g ps as body) κ t f h :=
  range_step hg (call_ok hR hl (hw f rfl))
theorem fq_yield {E : Env} {h : Heap} {l : Nat} {tm : Fr} {ps : List Nat} {as bd : RCode} {args : List PV} {n : PV → Heap → Prop} {t : Blk n} (hl : h.loop l = some ⟨.ready, none, tm, ps, as, bd⟩) (ha : args.length = ps.length)
    (hw : Wq E as ⟨fun f1 h1 => ∃ r1, h1.loop l = some r1 ∧ (r1.state = .ready ∧ Wq E bd
        ⟨fun _ h2 => ∃ r2, h2.loop l = some r2 ∧ n (.bool true) (h2.setLoop l { r2 with state := .ready, pending := none }),
         fun i _ h2 => ∃ r2, h2.loop l = some r2 ∧ n (.bool false) (h2.setLoop l { r2 with state := .done, pending := some (.exit i) }),
         fun _ h2 => ∃ r2, h2.loop l = some r2 ∧ n (.bool false) (h2.setLoop l { r2 with state := .done, pending := some .ret })⟩ .mk f1 (h1.setLoop l { r1 with state := .busy })),
      fun _ _ _ => False, fun _ _ => False⟩ .mk (putAll tm ps args) h) : Fq E (.yield l) args h n t := by
  refine yield_step hl rfl ha ?_
  have : wp E as _ _ _ _ _ := hw
  exact this

theorem og_IndexByte {s : List UInt8} {c : Int} {n : PV → Prop} {z : Blk n} : Hq E F_strings_IndexByte (some [.str s, .int .u8 c]) n z = n (.int .i64 (Lib.indexByte s (Int.toNat c).toUInt8)) := h_eq (by rfl)
def oCut (s t : Bytes) : Option (Bytes × Bytes × Bool) := if small s = true then some (Lib.cut s t) else none
theorem hq_Cut {s t a b : Bytes} {c : Bool} {n : PV → Prop} {z : Blk n} (hx : oCut s t = some (a, b, c)) (hn : n (.tuple [.str a, .str b, .bool c])) : Hq E F_strings_Cut (some [.str s, .str t]) n z := by
  unfold oCut at hx; split at hx
  · rename_i hs
    have e := Option.some.inj hx
    rw [oc_Cut (by simpa [small] using hs), e]; exact hn
  · cases hx
def oContains (s t : Bytes) : Option Bool := if small s = true then some (Lib.contains s t) else none
theorem hq_Contains {s t : Bytes} {i : Bool} {n : PV → Prop} {z : Blk n} (hx : oContains s t = some i) (hn : n (.bool i)) : Hq E F_strings_Contains (some [.str s, .str t]) n z := by
  unfold oContains at hx; split at hx
  · rename_i hs
    cases hx
    rw [oc_Contains (by simpa [small] using hs)]; exact hn
  · cases hx
def oContainsAny (s t : Bytes) : Option Bool := if (small s && small t && ascii s && ascii t) = true then some (Lib.containsAny s t) else none
theorem hq_ContainsAny {s t : Bytes} {i : Bool} {n : PV → Prop} {z : Blk n} (hx : oContainsAny s t = some i) (hn : n (.bool i)) : Hq E F_strings_ContainsAny (some [.str s, .str t]) n z := by
  unfold oContainsAny at hx; split at hx
  · rename_i hs
    cases hx
    refine hq_in ?_ hn
    show (if (small s && small t && ascii s && ascii t) = true then _ else _) = _
    rw [if_pos hs]
  · cases hx
def oToLower (s : Bytes) : Option Bytes := if small s = true then some (Lib.toLowerD s) else none
theorem hq_ToLower {s i : Bytes} {n : PV → Prop} {z : Blk n} (hx : oToLower s = some i) (hn : n (.str i)) : Hq E F_strings_ToLower (some [.str s]) n z := by
  unfold oToLower at hx; split at hx
  · rename_i hs
    cases hx
    rw [oc_ToLower (by simpa [small] using hs)]; exact hn
  · cases hx
def oTrimLeft (s t : Bytes) : Option Bytes := match t with
  | [c] => if c < 128 then some (Lib.trimLeftB s c) else none
  | _ => none
theorem hq_TrimLeft {s t i : Bytes} {n : PV → Prop} {z : Blk n} (hx : oTrimLeft s t = some i) (hn : n (.str i)) : Hq E F_strings_TrimLeft (some [.str s, .str t]) n z := by
  unfold oTrimLeft at hx; split at hx
  · split at hx
    · cases hx; rw [oc_TrimLeft ‹_›]; exact hn
    · cases hx
  · cases hx
def oFormatUint (n b : Int) : Option Bytes := if 0 ≤ n ∧ n < 18446744073709551616 ∧ b = 10 then some (Lib.decDigits n.toNat) else none
theorem hq_FormatUint {a b : Int} {i : Bytes} {n : PV → Prop} {z : Blk n} (hx : oFormatUint a b = some i) (hn : n (.str i)) : Hq E F_strconv_FormatUint (some [.int .u64 a, .int .i64 b]) n z := by
  unfold oFormatUint at hx; split at hx
  · rename_i hs
    cases hx
    obtain ⟨h1, h2, rfl⟩ := hs
    refine hq_in ?_ hn
    show (if 0 ≤ a ∧ a < 18446744073709551616 then _ else _) = _
    rw [if_pos ⟨h1, h2⟩]
  · cases hx
def oCutSuffix (s t : Bytes) : Option (Bytes × Bool) := if small s = true then some (Lib.trimSuffix s t, Lib.hasSuffix s t) else none
theorem hq_CutSuffix {s t i : Bytes} {b : Bool} {n : PV → Prop} {z : Blk n} (hx : oCutSuffix s t = some (i, b)) (hn : n (.tuple [.str i, .bool b])) : Hq E F_strings_CutSuffix (some [.str s, .str t]) n z := by
  unfold oCutSuffix at hx; split at hx
  · rename_i hs
    cases hx
    rw [oc_CutSuffix (by simpa [small] using hs)]; exact hn
  · cases hx
def oLen64 (x : Int) : Option Int := if 0 ≤ x ∧ x ≤ 18446744073709551615 then some (Lib.bitLen x.toNat) else none
theorem hq_Len64 {x i : Int} {n : PV → Prop} {z : Blk n} (hx : oLen64 x = some i) (hn : n (.int .i64 i)) : Hq E F_math_bits_Len64 (some [.int .u64 x]) n z := by
  unfold oLen64 at hx; split at hx
  · rename_i hs
    cases hx
    rw [oc_Len64 hs.1 hs.2]; exact hn
  · cases hx
def oClone (s : Bytes) : Option Bytes := if small s = true then some s else none
theorem hq_Clone {s i : Bytes} {n : PV → Prop} {z : Blk n} (hx : oClone s = some i) (hn : n (.str i)) : Hq E F_internal_stringslite_Clone (some [.str s]) n z := by
  unfold oClone at hx; split at hx
  · rename_i hs
    cases hx
    rw [oc_Clone (by simpa [small] using hs)]; exact hn
  · cases hx
def oCutLeft (s t : Bytes) : Option Bytes := if (small s && ascii t) = true then some (cutLeftS s t) else none
theorem hq_cutLeft {s t i : Bytes} {n : PV → Prop} {z : Blk n} (hx : oCutLeft s t = some i) (hn : n (.str i)) : Hq E F_cond_cutLeft (some [.str s, .str t]) n z := by
  unfold oCutLeft at hx; split at hx
  · rename_i hs
    cases hx
    refine hq_in ?_ hn
    show (if (small s && ascii t) = true then _ else _) = _
    rw [if_pos hs]
  · cases hx
theorem vq_eqi {A : Type} {r : A} {h : Heap} {n : PV → Heap → Prop} {t : Blk n} {ts : List TypeId} {x : Ifc} {ty : TypeId} {k : IntKind} {m : Int} {K : Bool → Option A} (hb : (eqI ts x (.int ty k m) >>= K) = some r) (hn : ∀ b, eqI ts x (.int ty k m) = some b → K b = some r → n (.bool b) h) : Vq (valP (binP .eql (.ifaceI ts) x.pv (.ifcI ty k m)) h) n t := by
  obtain ⟨b, hx, hb⟩ := bnd hb
  refine vq_mk (v := .bool b) (h' := h) ?_ (hn b hx hb)
  have : binP .eql (.ifaceI ts) x.pv (.ifcI ty k m) = (eqP (.ifaceI ts) x.pv (.ifcI ty k m)).map .bool := by cases x <;> rfl
  rw [this]; unfold eqI at hx; rw [ifc_int] at hx; rw [hx]; rfl
theorem m_l0 : ([] : List PV).length = 0 := nr rfl
theorem m_lc {a : PV} {l : List PV} : (a :: l).length = l.length + 1 := nr rfl
theorem m_eq {α : Type} {a : α} : (a = a) = True := eq_true rfl
theorem m_tor {p : Prop} : (True ∨ p) = True := by simp
theorem m_ort {p : Prop} : (p ∨ True) = True := by simp
theorem m_ne {α : Type} {a b : α} : (a ≠ b) = ¬ (a = b) := nr rfl
theorem m_ms {α β : Type} {f : α → β} {a : α} : Option.map f (some a) = some (f a) := nr rfl
theorem m_mn {α β : Type} {f : α → β} : Option.map f none = none := nr rfl
theorem m_g0 {α : Type} {a : α} {l : List α} : (a :: l)[0]? = some a := nr rfl
theorem m_gs {α : Type} {a : α} {l : List α} {n : Nat} : (a :: l)[n + 1]? = l[n]? := nr rfl
theorem m_mc {α β : Type} {f : α → β} {a : α} {l : List α} : List.map f (a :: l) = f a :: List.map f l := nr rfl
theorem m_m0 {α β : Type} {f : α → β} : List.map f [] = [] := nr rfl
theorem m_ac {p : PV → Bool} {a : PV} {l : List PV} : List.all (a :: l) p = (p a && List.all l p) := nr rfl
theorem m_a0 {p : PV → Bool} : List.all [] p = true := nr rfl
theorem m_na {α : Type} {l : List α} : [] ++ l = l := nr rfl
theorem m_an {α : Type} {l : List α} : l ++ [] = l := by simp
theorem m_ca {α : Type} {a : α} {l m : List α} : a :: l ++ m = a :: (l ++ m) := nr rfl
theorem m_tt : (true && true) = true := nr rfl
theorem m_dc {α : Type} {a : α} {l : List α} {n : Nat} : List.drop (n + 1) (a :: l) = List.drop n l := nr rfl
theorem m_d0 {α : Type} {l : List α} : List.drop 0 l = l := nr rfl
theorem m_tc {α : Type} {a : α} {l : List α} {n : Nat} : List.take (n + 1) (a :: l) = a :: List.take n l := nr rfl
theorem m_t0 {α : Type} {l : List α} : List.take 0 l = [] := by simp
theorem m_s0 {α : Type} {a b : α} {l : List α} : List.set (a :: l) 0 b = b :: l := nr rfl
theorem m_ss {α : Type} {a b : α} {l : List α} {n : Nat} : List.set (a :: l) (n + 1) b = a :: List.set l n b := nr rfl
theorem m_it {α : Type} {a b : α} : (if True then a else b) = a := if_pos trivial
theorem m_if {α : Type} {a b : α} : (if False then a else b) = b := if_neg id
theorem WD : type_of% (And.intro (And.intro (And.intro (And.intro (And.intro (@q_skip) (@q_region)) (And.intro (@q_region0) (And.intro (@q_seq) (@q_cond)))) (And.intro (And.intro (@q_block) (@q_scope)) (And.intro (@q_exit) (And.intro (@q_ret) (@q_loop))))) (And.intro (And.intro (And.intro (@q_range) (@o_nil)) (And.intro (@o_guard) (And.intro (@o_mov) (@o_pick)))) (And.intro (And.intro (@o_alloc) (And.intro (@o_box) (@o_mkif))) (And.intro (@o_build) (And.intro (@o_bslice) (@o_load)))))) (And.intro (And.intro (And.intro (And.intro (@o_store) (@o_nilck)) (And.intro (@o_bin) (And.intro (@o_un) (@o_conv)))) (And.intro (And.intro (@o_mkfunc) (And.intro (@o_mkslice) (@o_sliceS))) (And.intro (@o_slice) (And.intro (@o_faddr) (@o_field))))) (And.intro (And.intro (And.intro (@o_iaddr) (@o_iaddrA)) (And.intro (@o_indexS) (And.intro (@o_indexA) (@o_extract)))) (And.intro (And.intro (@o_len) (And.intro (@o_min) (@o_app))) (And.intro (@o_call) (And.intro (@o_pcall) (@o_ocall))))))) := And.intro (And.intro (And.intro (And.intro (And.intro (@q_skip) (@q_region)) (And.intro (@q_region0) (And.intro (@q_seq) (@q_cond)))) (And.intro (And.intro (@q_block) (@q_scope)) (And.intro (@q_exit) (And.intro (@q_ret) (@q_loop))))) (And.intro (And.intro (And.intro (@q_range) (@o_nil)) (And.intro (@o_guard) (And.intro (@o_mov) (@o_pick)))) (And.intro (And.intro (@o_alloc) (And.intro (@o_box) (@o_mkif))) (And.intro (@o_build) (And.intro (@o_bslice) (@o_load)))))) (And.intro (And.intro (And.intro (And.intro (@o_store) (@o_nilck)) (And.intro (@o_bin) (And.intro (@o_un) (@o_conv)))) (And.intro (And.intro (@o_mkfunc) (And.intro (@o_mkslice) (@o_sliceS))) (And.intro (@o_slice) (And.intro (@o_faddr) (@o_field))))) (And.intro (And.intro (And.intro (@o_iaddr) (@o_iaddrA)) (And.intro (@o_indexS) (And.intro (@o_indexA) (@o_extract)))) (And.intro (And.intro (@o_len) (And.intro (@o_min) (@o_app))) (And.intro (@o_call) (And.intro (@o_pcall) (@o_ocall))))))
theorem WR : type_of% (And.intro (And.intro (And.intro (And.intro (And.intro (And.intro (And.intro (And.intro (@c_bool) (@b_true)) (And.intro (@b_false) (@g_t))) (And.intro (And.intro (@g_f) (@g_undef)) (And.intro (@v_some) (And.intro (@v_ite) (@put_some))))) (And.intro (And.intro (And.intro (@put_none) (@put_get)) (And.intro (@ev_tmp) (@ev_const))) (And.intro (And.intro (@frame_nil) (@frame_cons)) (And.intro (@a_cons) (And.intro (@a_val) (@a_pickand)))))) (And.intro (And.intro (And.intro (And.intro (@a_pickor) (@a_box)) (And.intro (@a_mkifi) (@a_mkifp))) (And.intro (And.intro (@a_mkifs) (@a_agg)) (And.intro (@a_fill0) (And.intro (@a_fill1) (@a_set0))))) (And.intro (And.intro (And.intro (@a_set1) (@a_loadp)) (And.intro (@a_loadb) (@a_loadc))) (And.intro (And.intro (@a_read1) (@a_readn)) (And.intro (@a_storep) (And.intro (@a_storeb) (@a_nilp))))))) (And.intro (And.intro (And.intro (And.intro (And.intro (@a_nilc) (@a_nilf)) (And.intro (@a_add) (@a_sub))) (And.intro (And.intro (@a_mul) (@a_eql)) (And.intro (@a_neq) (And.intro (@a_lss) (@a_leq))))) (And.intro (And.intro (And.intro (@a_gtr) (@a_geq)) (And.intro (@a_seql) (@a_sneq))) (And.intro (And.intro (@a_slss) (@a_sgtr)) (And.intro (@a_beql) (And.intro (@a_bneq) (@a_aeql)))))) (And.intro (And.intro (And.intro (And.intro (@a_aneq) (@a_ineqn)) (And.intro (@a_ineqc) (@a_ineqi))) (And.intro (And.intro (@a_ieqn) (@a_ieqc)) (And.intro (@a_ieqi) (And.intro (@a_ieq2) (@a_peq0))))) (And.intro (And.intro (And.intro (@a_peq1) (@a_pne0)) (And.intro (@a_pne1) (And.intro (@a_not) (@a_neg)))) (And.intro (And.intro (@a_convi) (@a_convs)) (And.intro (@a_ev0) (And.intro (@a_ev1) (@a_bnd0)))))))) (And.intro (And.intro (And.intro (And.intro (And.intro (And.intro (@a_bnd1) (@a_slS00)) (And.intro (@a_esok) (@a_esnil))) (And.intro (And.intro (@a_esstr) (@a_subn)) (And.intro (@a_subs) (And.intro (@a_faddrp) (@a_faddrc))))) (And.intro (And.intro (And.intro (@a_field) (@a_extract)) (And.intro (@a_lens) (@a_lenl))) (And.intro (And.intro (@a_min) (@a_stall0)) (And.intro (@a_stall1) (And.intro (@st1_int) (@st2_int)))))) (And.intro (And.intro (And.intro (And.intro (@st3_int) (@st1_bool)) (And.intro (@st2_bool) (@st3_bool))) (And.intro (And.intro (@st1_str) (@st2_str)) (And.intro (@st3_str) (And.intro (@st1_nilptr) (@st2_nilptr))))) (And.intro (And.intro (And.intro (@st3_nilptr) (@st1_nilfunc)) (And.intro (@st2_nilfunc) (And.intro (@st3_nilfunc) (@st1_nilIface)))) (And.intro (And.intro (@st2_nilIface) (@st3_nilIface)) (And.intro (@st1_ifc) (And.intro (@st2_ifc) (@st3_ifc))))))) (And.intro (And.intro (And.intro (And.intro (And.intro (@st1_ifcI) (@st2_ifcI)) (And.intro (@st3_ifcI) (@st1_cptr))) (And.intro (And.intro (@st2_cptr) (@st3_cptr)) (And.intro (@cells_int) (And.intro (@one_int) (@cells_bool))))) (And.intro (And.intro (And.intro (@one_bool) (@cells_str)) (And.intro (@one_str) (@cells_nilptr))) (And.intro (And.intro (@one_nilptr) (@cells_nilfunc)) (And.intro (@one_nilfunc) (And.intro (@cells_nilIface) (@one_nilIface)))))) (And.intro (And.intro (And.intro (And.intro (@cells_ifc) (@one_ifc)) (And.intro (@cells_ifcI) (@one_ifcI))) (And.intro (And.intro (@cells_cptr) (@one_cptr)) (And.intro (@cells_ptr) (And.intro (@one_ptr) (@cells_slice))))) (And.intro (And.intro (And.intro (@one_slice) (@cells_func)) (And.intro (@one_func) (And.intro (@cells_yield) (@one_yield)))) (And.intro (And.intro (@cells_agg) (@st1_func)) (And.intro (@st2_func) (And.intro (@st3_func) (@st2_agg))))))))) (And.intro (And.intro (And.intro (And.intro (And.intro (And.intro (And.intro (@st3_agg) (@st3_tuple)) (And.intro (@all1_0) (@all1_1))) (And.intro (And.intro (@all2_0) (@all2_1)) (And.intro (@bsl_1) (And.intro (@hb_new) (@hb_old))))) (And.intro (And.intro (And.intro (@hb_set) (@hb_oset)) (And.intro (@hb_arr) (@hb_grow))) (And.intro (And.intro (@hb_loop) (@hb_sloop)) (And.intro (@hl_box) (And.intro (@hl_set) (@hl_arr)))))) (And.intro (And.intro (And.intro (And.intro (@hl_oarr) (@hl_grow)) (And.intro (@hl_ogrow) (@hl_loop))) (And.intro (And.intro (@hl_sloop) (@ho_box)) (And.intro (@ho_set) (And.intro (@ho_arr) (@ho_grow))))) (And.intro (And.intro (And.intro (@ho_new) (@ho_old)) (And.intro (@ho_sset) (And.intro (@ho_oset) (@out_eq)))) (And.intro (And.intro (@res_0) (@res_1)) (And.intro (@res_tmp) (And.intro (@res_cell) (@res_cellp))))))) (And.intro (And.intro (And.intro (And.intro (And.intro (@res_read) (@pack_0)) (And.intro (@pack_1) (@pack_2))) (And.intro (And.intro (@st3_some) (@some_ex)) (And.intro (@g_and) (And.intro (@g_or) (@g_xor))))) (And.intro (And.intro (And.intro (@g_andn) (@g_com)) (And.intro (@g_pick) (@st1_sl))) (And.intro (And.intro (@st2_sl) (@st3_sl)) (And.intro (@dis_nil) (And.intro (@dis_nil') (@own_nil)))))) (And.intro (And.intro (And.intro (And.intro (@own_box) (@own_set)) (And.intro (@own_loop) (@own_sloop))) (And.intro (And.intro (@own_arr) (@tg_some)) (And.intro (@tags_0) (And.intro (@tags_int) (@tags_bool))))) (And.intro (And.intro (And.intro (@tags_str) (@putall_0)) (And.intro (@putall_1) (And.intro (@some_exr) (@nb_ready)))) (And.intro (And.intro (@nb_done) (@pend_none)) (And.intro (@pend_exit) (And.intro (@pend_ret) (@chunk_0)))))))) (And.intro (And.intro (And.intro (And.intro (And.intro (And.intro (@chunk_1) (@chunk_2)) (And.intro (@chunk_3) (@chunk_4))) (And.intro (And.intro (@and_self) (@and_true)) (And.intro (@true_and) (And.intro (@Nat.zero_ne_one) (@Nat.one_ne_zero))))) (And.intro (And.intro (And.intro (@not_false_eq_true) (@not_true_eq_false)) (And.intro (@Nat.zero_add) (@Nat.add_zero))) (And.intro (And.intro (@m_ms) (@m_mn)) (And.intro (@m_g0) (And.intro (@m_gs) (@m_mc)))))) (And.intro (And.intro (And.intro (And.intro (@m_m0) (@m_ac)) (And.intro (@m_a0) (@m_na))) (And.intro (And.intro (@m_an) (@m_ca)) (And.intro (@m_tt) (And.intro (@m_dc) (@m_d0))))) (And.intro (And.intro (And.intro (@m_tc) (@m_t0)) (And.intro (@m_s0) (And.intro (@m_ss) (@m_it)))) (And.intro (And.intro (@m_if) (@Bool.false_eq_true)) (And.intro (@m_ne) (And.intro (@loco_nil) (@mem1))))))) (And.intro (And.intro (And.intro (And.intro (And.intro (@mem2) (@mem2')) (And.intro (@m_ort) (@m_tor))) (And.intro (And.intro (@m_l0) (@m_lc)) (And.intro (@m_eq) (And.intro (@Bool.not_true) (@Bool.not_false))))) (And.intro (And.intro (And.intro (@Bool.true_and) (@Bool.false_and)) (And.intro (@Bool.and_true) (@Bool.and_false))) (And.intro (And.intro (@Bool.true_or) (@Bool.false_or)) (And.intro (@Bool.or_true) (And.intro (@Bool.or_false) (@bt_box)))))) (And.intro (And.intro (And.intro (And.intro (@bt_new) (@bt_set)) (And.intro (@bt_arr) (@bt_loop))) (And.intro (And.intro (@bt_sloop) (@ifc_nil)) (And.intro (@ifc_opq) (And.intro (@ifc_int) (@ifc_st1))))) (And.intro (And.intro (And.intro (@ifc_st2) (@ifc_st3)) (And.intro (@ifc_one) (And.intro (@ifc_cells) (@ifc_eqn)))) (And.intro (And.intro (@ifc_neqn) (@out_r)) (And.intro (@oc_HasPrefix) (And.intro (@oc_CutPrefix) (@og_IndexByte)))))))))) := And.intro (And.intro (And.intro (And.intro (And.intro (And.intro (And.intro (And.intro (@c_bool) (@b_true)) (And.intro (@b_false) (@g_t))) (And.intro (And.intro (@g_f) (@g_undef)) (And.intro (@v_some) (And.intro (@v_ite) (@put_some))))) (And.intro (And.intro (And.intro (@put_none) (@put_get)) (And.intro (@ev_tmp) (@ev_const))) (And.intro (And.intro (@frame_nil) (@frame_cons)) (And.intro (@a_cons) (And.intro (@a_val) (@a_pickand)))))) (And.intro (And.intro (And.intro (And.intro (@a_pickor) (@a_box)) (And.intro (@a_mkifi) (@a_mkifp))) (And.intro (And.intro (@a_mkifs) (@a_agg)) (And.intro (@a_fill0) (And.intro (@a_fill1) (@a_set0))))) (And.intro (And.intro (And.intro (@a_set1) (@a_loadp)) (And.intro (@a_loadb) (@a_loadc))) (And.intro (And.intro (@a_read1) (@a_readn)) (And.intro (@a_storep) (And.intro (@a_storeb) (@a_nilp))))))) (And.intro (And.intro (And.intro (And.intro (And.intro (@a_nilc) (@a_nilf)) (And.intro (@a_add) (@a_sub))) (And.intro (And.intro (@a_mul) (@a_eql)) (And.intro (@a_neq) (And.intro (@a_lss) (@a_leq))))) (And.intro (And.intro (And.intro (@a_gtr) (@a_geq)) (And.intro (@a_seql) (@a_sneq))) (And.intro (And.intro (@a_slss) (@a_sgtr)) (And.intro (@a_beql) (And.intro (@a_bneq) (@a_aeql)))))) (And.intro (And.intro (And.intro (And.intro (@a_aneq) (@a_ineqn)) (And.intro (@a_ineqc) (@a_ineqi))) (And.intro (And.intro (@a_ieqn) (@a_ieqc)) (And.intro (@a_ieqi) (And.intro (@a_ieq2) (@a_peq0))))) (And.intro (And.intro (And.intro (@a_peq1) (@a_pne0)) (And.intro (@a_pne1) (And.intro (@a_not) (@a_neg)))) (And.intro (And.intro (@a_convi) (@a_convs)) (And.intro (@a_ev0) (And.intro (@a_ev1) (@a_bnd0)))))))) (And.intro (And.intro (And.intro (And.intro (And.intro (And.intro (@a_bnd1) (@a_slS00)) (And.intro (@a_esok) (@a_esnil))) (And.intro (And.intro (@a_esstr) (@a_subn)) (And.intro (@a_subs) (And.intro (@a_faddrp) (@a_faddrc))))) (And.intro (And.intro (And.intro (@a_field) (@a_extract)) (And.intro (@a_lens) (@a_lenl))) (And.intro (And.intro (@a_min) (@a_stall0)) (And.intro (@a_stall1) (And.intro (@st1_int) (@st2_int)))))) (And.intro (And.intro (And.intro (And.intro (@st3_int) (@st1_bool)) (And.intro (@st2_bool) (@st3_bool))) (And.intro (And.intro (@st1_str) (@st2_str)) (And.intro (@st3_str) (And.intro (@st1_nilptr) (@st2_nilptr))))) (And.intro (And.intro (And.intro (@st3_nilptr) (@st1_nilfunc)) (And.intro (@st2_nilfunc) (And.intro (@st3_nilfunc) (@st1_nilIface)))) (And.intro (And.intro (@st2_nilIface) (@st3_nilIface)) (And.intro (@st1_ifc) (And.intro (@st2_ifc) (@st3_ifc))))))) (And.intro (And.intro (And.intro (And.intro (And.intro (@st1_ifcI) (@st2_ifcI)) (And.intro (@st3_ifcI) (@st1_cptr))) (And.intro (And.intro (@st2_cptr) (@st3_cptr)) (And.intro (@cells_int) (And.intro (@one_int) (@cells_bool))))) (And.intro (And.intro (And.intro (@one_bool) (@cells_str)) (And.intro (@one_str) (@cells_nilptr))) (And.intro (And.intro (@one_nilptr) (@cells_nilfunc)) (And.intro (@one_nilfunc) (And.intro (@cells_nilIface) (@one_nilIface)))))) (And.intro (And.intro (And.intro (And.intro (@cells_ifc) (@one_ifc)) (And.intro (@cells_ifcI) (@one_ifcI))) (And.intro (And.intro (@cells_cptr) (@one_cptr)) (And.intro (@cells_ptr) (And.intro (@one_ptr) (@cells_slice))))) (And.intro (And.intro (And.intro (@one_slice) (@cells_func)) (And.intro (@one_func) (And.intro (@cells_yield) (@one_yield)))) (And.intro (And.intro (@cells_agg) (@st1_func)) (And.intro (@st2_func) (And.intro (@st3_func) (@st2_agg))))))))) (And.intro (And.intro (And.intro (And.intro (And.intro (And.intro (And.intro (@st3_agg) (@st3_tuple)) (And.intro (@all1_0) (@all1_1))) (And.intro (And.intro (@all2_0) (@all2_1)) (And.intro (@bsl_1) (And.intro (@hb_new) (@hb_old))))) (And.intro (And.intro (And.intro (@hb_set) (@hb_oset)) (And.intro (@hb_arr) (@hb_grow))) (And.intro (And.intro (@hb_loop) (@hb_sloop)) (And.intro (@hl_box) (And.intro (@hl_set) (@hl_arr)))))) (And.intro (And.intro (And.intro (And.intro (@hl_oarr) (@hl_grow)) (And.intro (@hl_ogrow) (@hl_loop))) (And.intro (And.intro (@hl_sloop) (@ho_box)) (And.intro (@ho_set) (And.intro (@ho_arr) (@ho_grow))))) (And.intro (And.intro (And.intro (@ho_new) (@ho_old)) (And.intro (@ho_sset) (And.intro (@ho_oset) (@out_eq)))) (And.intro (And.intro (@res_0) (@res_1)) (And.intro (@res_tmp) (And.intro (@res_cell) (@res_cellp))))))) (And.intro (And.intro (And.intro (And.intro (And.intro (@res_read) (@pack_0)) (And.intro (@pack_1) (@pack_2))) (And.intro (And.intro (@st3_some) (@some_ex)) (And.intro (@g_and) (And.intro (@g_or) (@g_xor))))) (And.intro (And.intro (And.intro (@g_andn) (@g_com)) (And.intro (@g_pick) (@st1_sl))) (And.intro (And.intro (@st2_sl) (@st3_sl)) (And.intro (@dis_nil) (And.intro (@dis_nil') (@own_nil)))))) (And.intro (And.intro (And.intro (And.intro (@own_box) (@own_set)) (And.intro (@own_loop) (@own_sloop))) (And.intro (And.intro (@own_arr) (@tg_some)) (And.intro (@tags_0) (And.intro (@tags_int) (@tags_bool))))) (And.intro (And.intro (And.intro (@tags_str) (@putall_0)) (And.intro (@putall_1) (And.intro (@some_exr) (@nb_ready)))) (And.intro (And.intro (@nb_done) (@pend_none)) (And.intro (@pend_exit) (And.intro (@pend_ret) (@chunk_0)))))))) (And.intro (And.intro (And.intro (And.intro (And.intro (And.intro (@chunk_1) (@chunk_2)) (And.intro (@chunk_3) (@chunk_4))) (And.intro (And.intro (@and_self) (@and_true)) (And.intro (@true_and) (And.intro (@Nat.zero_ne_one) (@Nat.one_ne_zero))))) (And.intro (And.intro (And.intro (@not_false_eq_true) (@not_true_eq_false)) (And.intro (@Nat.zero_add) (@Nat.add_zero))) (And.intro (And.intro (@m_ms) (@m_mn)) (And.intro (@m_g0) (And.intro (@m_gs) (@m_mc)))))) (And.intro (And.intro (And.intro (And.intro (@m_m0) (@m_ac)) (And.intro (@m_a0) (@m_na))) (And.intro (And.intro (@m_an) (@m_ca)) (And.intro (@m_tt) (And.intro (@m_dc) (@m_d0))))) (And.intro (And.intro (And.intro (@m_tc) (@m_t0)) (And.intro (@m_s0) (And.intro (@m_ss) (@m_it)))) (And.intro (And.intro (@m_if) (@Bool.false_eq_true)) (And.intro (@m_ne) (And.intro (@loco_nil) (@mem1))))))) (And.intro (And.intro (And.intro (And.intro (And.intro (@mem2) (@mem2')) (And.intro (@m_ort) (@m_tor))) (And.intro (And.intro (@m_l0) (@m_lc)) (And.intro (@m_eq) (And.intro (@Bool.not_true) (@Bool.not_false))))) (And.intro (And.intro (And.intro (@Bool.true_and) (@Bool.false_and)) (And.intro (@Bool.and_true) (@Bool.and_false))) (And.intro (And.intro (@Bool.true_or) (@Bool.false_or)) (And.intro (@Bool.or_true) (And.intro (@Bool.or_false) (@bt_box)))))) (And.intro (And.intro (And.intro (And.intro (@bt_new) (@bt_set)) (And.intro (@bt_arr) (@bt_loop))) (And.intro (And.intro (@bt_sloop) (@ifc_nil)) (And.intro (@ifc_opq) (And.intro (@ifc_int) (@ifc_st1))))) (And.intro (And.intro (And.intro (@ifc_st2) (@ifc_st3)) (And.intro (@ifc_one) (And.intro (@ifc_cells) (@ifc_eqn)))) (And.intro (And.intro (@ifc_neqn) (@out_r)) (And.intro (@oc_HasPrefix) (And.intro (@oc_CutPrefix) (@og_IndexByte)))))))))
theorem HN : type_of% (And.intro (And.intro (@hn_box) (And.intro (@hn_set) (@hn_arr))) (And.intro (And.intro (@hn_grow) (@hn_loop)) (And.intro (@hn_sloop) (@h_empty)))) := And.intro (And.intro (@hn_box) (And.intro (@hn_set) (@hn_arr))) (And.intro (And.intro (@hn_grow) (@hn_loop)) (And.intro (@hn_sloop) (@h_empty)))

theorem Dd {p : Prop} (h : p := by first | omega | assumption | (simp only [HN] <;> omega) | (simp only [m_l0, m_lc] <;> omega) | (simp (maxDischargeDepth := 20) only [own_box, own_loop, own_set, own_sloop, own_arr, X])) : p := h
theorem Tw {P Q : Prop} (q : Q) (e : P = Q := by
  (try simp (disch := first | exact Dd | fail) only [WD, WR, HN, GR, ↓reduceIte, reduceCtorEq, Nat.reduceEqDiff, Nat.reduceAdd, Nat.reduceLT, Nat.reduceLeDiff, X]); exact rfl) : P := Eq.mpr e q
theorem Cw {P : Prop} (e : P := by
  first
  | (simp (disch := first | exact Dd | fail) only [WD, WR, HN, GR, ↓reduceIte, reduceCtorEq, Nat.reduceEqDiff, Nat.reduceAdd, Nat.reduceLT, Nat.reduceLeDiff, X]; done)
  | (simp (disch := first | exact Dd | fail) only [WD, WR, HN, GR, ↓reduceIte, reduceCtorEq, Nat.reduceEqDiff, Nat.reduceAdd, Nat.reduceLT, Nat.reduceLeDiff, X]; (and_intros <;> first | rfl | assumption | exact dis_symm (by assumption)))
  | exact dis_symm (by simp (disch := first | exact Dd | fail) only [WD, WR, HN, GR, ↓reduceIte, reduceCtorEq, Nat.reduceEqDiff, Nat.reduceAdd, Nat.reduceLT, Nat.reduceLeDiff, X])) : P := e
theorem Cf {P : Prop} (e : P := by
  (try simp (disch := first | exact Dd | fail) only [WD, WR, HN, GR, ↓reduceIte, reduceCtorEq, Nat.reduceEqDiff, Nat.reduceAdd, Nat.reduceLT, Nat.reduceLeDiff, X]) <;> and_intros <;>
  repeat (first | assumption | exact frb_self' | (simp only [X]; done) | refine frb_set' ?_ (by first | (left; simp; done) | (right; (try simp only [HN]) <;> omega)) | refine frb_box' ?_ | refine frb_arr' ?_ | refine frb_loop' ?_ | refine frb_sloop' ?_ (by (try simp only [HN]) <;> omega))) : P := e
theorem Ck {P : Prop} (e : P := by
  (try simp (disch := first | exact Dd | fail) only [WD, WR, HN, GR, ↓reduceIte, reduceCtorEq, Nat.reduceEqDiff, Nat.reduceAdd, Nat.reduceLT, Nat.reduceLeDiff, X, chk_1, chk_0, apart_pp, apart_c1, apart_pc, apart_pu, apart_up, apart_uu]) <;> first | trivial | omega | (simp; done) | (simp; omega)) : P := e
theorem Cn {P : Prop} (e : P := by (try simp only [HN]) <;> and_intros <;> omega) : P := e

end Go.Proofs.YtmngkcpobmhnoaaGreatDoor.Sim
