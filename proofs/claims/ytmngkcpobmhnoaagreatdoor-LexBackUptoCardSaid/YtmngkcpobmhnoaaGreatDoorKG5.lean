/- Printed functions, continued. -/
import Derived.Test.YtmngkcpobmhnoaaGreatDoorKG4
set_option linter.all false
set_option maxHeartbeats 4000000
set_option maxRecDepth 20000
namespace Go.Proofs.YtmngkcpobmhnoaaGreatDoor.Sim
def G_lex_Words (l_2 : List T_api_Tok) : Option (List T_api_Word × Int × Bytes × Int) :=
 (
  loopO (G_lex_Words_L1) (([] : List T_api_Word), l_2) >>= fun q303 => match q303 with
   | .a (v274, v279, v280, v281) =>
    some (v274, true, v279, v280)
   | .b (v292, v297) =>
    some (v292, false, [], (0 : Int))
 ) >>= fun (v324, v329, v330, v331) =>
 if v329 then
  some (([] : List T_api_Word), (70 : Int), v330, v331)
 else
  some (v324, (0 : Int), ([] : Bytes), (0 : Int))
theorem G_lex_Words_ok {l_2 : List T_api_Tok} {o3 : Own} {e4 : Nat} {M5 : List (List PV)} {r7 : List T_api_Word} {r8 : Int} {r9 : Bytes} {r10 : Int} (hx : G_lex_Words l_2 = some (r7, r8, r9, r10)) (s6 : SlR 6 T_api_Tok.R o3 e4 l_2 M5) : PureE E 15 [(.slice o3 e4 M5)] (fun v => ∃ o11 e12 M13, v = (.tuple [(.slice o11 e12 M13), (.int .i64 r8), (.str r9), (.int .i64 r10)]) ∧ SlR 6 T_api_Word.R o11 e12 r7 M13) := by
 refine pureE_ok fn_lex_Words rfl ?_
 have hb := hx
 dsimp only [G_lex_Words] at hb
 have X := s6.len
 refine Tw ?_
 refine bnd1 hb (fun j333 hj hb => ?_)
 refine wq_join (fun Z => ∀ (f319 : Fr) (h320 : Heap) (v324 : List T_api_Word) (v329 : Bool) (v330 : Bytes) (v331 : Int) (o325 : Own) (e326 : Nat) (M327 : List (List PV)), (v324, v329, v330, v331) = j333 → (f319 6 = (.ptr 0 0) ∧ f319 7 = (.ptr 1 0) ∧ h320.box 0 = some [(.slice o325 e326 M327)] ∧ h320.box 1 = some [(.bool v329), (.str v330), (.int .i64 v331)] ∧ OwnOK h320 o325) → (0 < 1 ∧ 1 < h320.n) → SlR 6 T_api_Word.R o325 e326 v324 M327 → Z f319 h320) (fun Z hX21 => ?_) ?_
 ·have hr20 := hb
  clear hb
  have hb := hj
  clear hj
  refine wq_def J_lex_Words_1.eq_1 ?_
  refine Tw ?_
  refine Tw ?_
  refine fq_in fn_lex_words (by rfl) ?_
  refine Tw ?_
  refine Tw ?_
  refine lq_range (E := E) (k := 54) (first := []) (cap := [(.ptr 2 0)]) fn_lex_words_1 Cw (by rfl) (fun g25 eg25 => ?_)
  have qg25 : g25 6 = (.ptr 0 0) ∧ g25 7 = (.ptr 1 0) := by rw [eg25]; exact Cw
  have X := And.intro qg25 X
  refine Tw ?_
  refine bnd1 hb (fun q303 h304 hb => ?_)
  refine G_lex_Words_L1_ok (v41 := false) (v42 := []) (v43 := (0 : Int)) (b34 := 0) (b40 := 1) (b44 := 2) (l50 := 3) (g51 := g25) _ _ _ h304 _ _ .nil 0 [] o3 e4 M5 Cw Cw Cn slr_nil s6 ?_ ?_
  ·intro f269 h270 v274 v279 v280 v281 o275 e276 M277 o282 e283 M284 ex Y271 Y273 s278 s285
   subst ex
   try dsimp only at hb
   have X := And.intro Y271 (And.intro s278.len (And.intro s285.len X))
   refine Tw ?_
   have hb := Option.some.inj hb
   subst hb
   refine Tw ?_
   exact hX21 _ _ v274 true v279 v280 o275 e276 M277 rfl Cw Cn s278
  ·intro f287 h288 v292 v297 o293 e294 M295 o298 e299 M300 ex Y289 Y291 s296 s301
   subst ex
   try dsimp only at hb
   have X := And.intro Y289 (And.intro s296.len (And.intro s301.len X))
   refine Tw ?_
   have hb := Option.some.inj hb
   subst hb
   refine Tw ?_
   exact hX21 _ _ v292 false [] (0 : Int) o293 e294 M295 rfl Cw Cn s296
 ·intro f319 h320 v324 v329 v330 v331 o325 e326 M327 ej Y321 Y323 s328
  subst ej
  try dsimp only at hb
  have X := And.intro Y321 (And.intro s328.len X)
  refine Tw ?_
  refine bq_if hb rfl (fun c339 hb => ?_) (fun c339 hb => ?_)
  ·have hb := Option.some.inj hb
   obtain ⟨e0, hb⟩ := Prod.mk.inj hb
   obtain ⟨e1, hb⟩ := Prod.mk.inj hb
   obtain ⟨e2, e3⟩ := Prod.mk.inj hb
   subst e0
   subst e1
   subst e2
   subst e3
   have X := And.intro c339 X
   refine Tw ?_
   exact endI ⟨.nil, 0, [], rfl, (slr_nil (R := T_api_Word.R)).st⟩
  ·have hb := Option.some.inj hb
   obtain ⟨e0, hb⟩ := Prod.mk.inj hb
   obtain ⟨e1, hb⟩ := Prod.mk.inj hb
   obtain ⟨e2, e3⟩ := Prod.mk.inj hb
   subst e0
   subst e1
   subst e2
   subst e3
   have X := And.intro c339 X
   refine Tw ?_
   exact endI ⟨(stO o325), e326, M327, rfl, s328.st⟩
def G_burinlaw07_LexBack_L1 (l_50 : List T_api_Word) (m_56 : List T_api_Word) : Int → Option ((Int) ⊕ (Ex2 (Unit) (Unit))) := fun i_61 =>
 if (decide (i_61 < ((List.length l_50 : Nat) : Int))) then
  idx l_50 i_61 >>= fun x74 =>
  idx m_56 i_61 >>= fun x79 =>
  if (!((x74.Kind_ == x79.Kind_) && ((x74.S_ == x79.S_) && ((x74.V_ == x79.V_) && ((x74.T_ == x79.T_) && ((([] : Bytes) == x79.File_) && ((1 : Int) == x79.Line_))))))) then
   some (Sum.inr (Ex2.a ()))
  else
   some (Sum.inl (IntKind.wrap .i64 (i_61 + (1 : Int))))
 else
  some (Sum.inr (Ex2.b ()))
theorem G_burinlaw07_LexBack_L1_ok {κ : Kt} {t : Blk κ} {l_50 : List T_api_Word} {head_55 : Bool} {m_56 : List T_api_Word} {o51 : Own} {e52 : Nat} {M53 : List (List PV)} {o57 : Own} {e58 : Nat} {M59 : List (List PV)} (i_61 : Int) (x : Ex2 (Unit) (Unit)) (hx : loopO (G_burinlaw07_LexBack_L1 l_50 m_56) i_61 = some x) (s54 : SlR 6 T_api_Word.R o51 e52 l_50 M53) (s60 : SlR 6 T_api_Word.R o57 e58 m_56 M59) : ∀ (f62 : Fr) (h63 : Heap), (f62 0 = (.slice o51 e52 M53) ∧ f62 3 = (.bool head_55) ∧ f62 6 = (.slice o57 e58 M59) ∧ f62 10 = (.int .i64 i_61)) → (True) → (True) → (∀ (f87 : Fr) (h88 : Heap), Ex2.a () = x → (f87 2 = (.bool false)) → (True) → κ.R f87 h88) → (∀ (f93 : Fr) (h94 : Heap), Ex2.b () = x → (f93 3 = (.bool head_55)) → (True) → κ.B 0 f93 h94) → Lq E (.loop L_burinlaw07_LexBack_1) κ t f62 h63 := by
 revert i_61 x
 refine loop1' ?_
 intro i_61 r hb x hn f62 h63  Y64 Y65 Y66  ex0 ex1
 dsimp only [G_burinlaw07_LexBack_L1] at hb
 refine loop_step L_burinlaw07_LexBack_1.eq_1 ?_
 have X := And.intro Y64 (And.intro s54.len (s60.len))
 refine Tw ?_
 refine Tw ?_
 refine bq_if hb rfl (fun c73 hb => ?_) (fun c73 hb => ?_)
 ·have X := And.intro c73 X
  refine Tw ?_
  refine vq_iaddr s54 hb (fun x74 cs75 hx74 hb hcs75 => ?_)
  cases (show cs75 = [(.int .i64 x74.Kind_), (.str x74.S_), (.int .i64 x74.V_), (.int .i64 x74.T_), (.str x74.File_), (.int .i64 x74.Line_)] from hcs75)
  refine Tw ?_
  refine vq_iaddr s60 hb (fun x79 cs80 hx79 hb hcs80 => ?_)
  cases (show cs80 = [(.int .i64 x79.Kind_), (.str x79.S_), (.int .i64 x79.V_), (.int .i64 x79.T_), (.str x79.File_), (.int .i64 x79.Line_)] from hcs80)
  refine Tw ?_
  refine bq_if hb rfl (fun c86 hb => ?_) (fun c86 hb => ?_)
  ·have hb := Option.some.inj hb
   subst hb
   have hn : _ = _ := hn
   subst hn
   have X := And.intro c86 X
   refine Tw ?_
   exact ex0 _ _ rfl Cw trivial
  ·have hb := Option.some.inj hb
   subst hb
   have X := And.intro c86 X
   refine Tw ?_
   exact hn _ _  Cw trivial trivial ex0 ex1
 ·have hb := Option.some.inj hb
  subst hb
  have hn : _ = _ := hn
  subst hn
  have X := And.intro c73 X
  refine Tw ?_
  exact ex1 _ _ rfl Cw trivial
def G_burinlaw07_LexBack (l_2 : List T_api_Word) : Option (Bool) :=
 G_burinlaw07_shown  >>= fun r8 =>
 subT l_2 (if (500 : Int) < ((List.length l_2 : Nat) : Int) then (500 : Int) else ((List.length l_2 : Nat) : Int)) >>= fun t10 =>
 G_lex_Show t10 >>= fun (r14, r15) =>
 if (!(r15 == (0 : Int))) then
  if r8 then
   some (r15 == (2 : Int))
  else
   some false
 else
  G_burinlaw07_lexed r14 >>= fun r19 =>
  G_lex_Words r19 >>= fun (r25, r30, r31, r32) =>
  (
   if (!(r30 == (0 : Int))) then
    some (Ex2.a false)
   else
    if (!(((List.length r25 : Nat) : Int) == ((List.length t10 : Nat) : Int))) then
     some (Ex2.a false)
    else
     some (Ex2.b ())
  ) >>= fun j46 => match j46 with
   | .a q => some q
   | .b () =>
    loopO (G_burinlaw07_LexBack_L1 t10 r25) (0 : Int) >>= fun q99 => match q99 with
     | .a _ =>
      some false
     | .b _ =>
      some r8
theorem G_burinlaw07_LexBack_ok {l_2 : List T_api_Word} {o3 : Own} {e4 : Nat} {M5 : List (List PV)} {r7 : Bool} (hx : G_burinlaw07_LexBack l_2 = some r7) (s6 : SlR 6 T_api_Word.R o3 e4 l_2 M5) : PureE E 13 [(.slice o3 e4 M5)] (fun v => v = (.bool r7)) := by
 refine pureE_ok fn_burinlaw07_LexBack rfl ?_
 have hb := hx
 dsimp only [G_burinlaw07_LexBack] at hb
 have X := s6.len
 refine Tw ?_
 refine bnd1 hb (fun r8 h9 hb => ?_)
 refine pq_eq (G_burinlaw07_shown_ok h9) ?_
 refine Tw ?_
 refine vq_subT s6 hb (fun t10 o11 M12 ht10 hb s13 => ?_)
 have X := And.intro s13.len X
 refine Tw ?_
 refine bnd2 hb (fun r14 r15 h16 hb => ?_)
 try dsimp only at hb
 refine pq_eq (G_lex_Show_ok h16 s13.st) ?_
 refine Tw ?_
 refine bq_if hb rfl (fun c17 hb => ?_) (fun c17 hb => ?_)
 ·have X := And.intro c17 X
  refine Tw ?_
  refine bq_if hb rfl (fun c18 hb => ?_) (fun c18 hb => ?_)
  ·have hb := Option.some.inj hb
   subst hb
   have X := And.intro c18 X
   refine Tw ?_
   exact endI rfl
  ·have hb := Option.some.inj hb
   subst hb
   have X := And.intro c18 X
   refine Tw ?_
   exact endI rfl
 ·have X := And.intro c17 X
  refine Tw ?_
  refine bnd1 hb (fun r19 h24 hb => ?_)
  refine pq_in1 (G_burinlaw07_lexed_ok h24) (fun o20 e21 M22 s23 => ?_)
  have X := And.intro s23.len X
  refine Tw ?_
  refine bnd4 hb (fun r25 r30 r31 r32 h33 hb => ?_)
  try dsimp only at hb
  refine pq_in1 (G_lex_Words_ok h33 s23.st) (fun o26 e27 M28 s29 => ?_)
  have X := And.intro s29.len X
  refine Tw ?_
  refine bnd1 hb (fun j46 hj hb => ?_)
  refine wq_joinF (fun Z => ∀ (f41 : Fr), Ex2.b () = j46 → (f41 0 = (.slice o11 e4 M12) ∧ f41 3 = (.bool r8) ∧ f41 6 = (.slice o26 e27 M28)) → Z f41) (fun Z hX36 => ?_) ?_
  ·have hr35 := hb
   clear hb
   have hb := hj
   clear hj
   refine wq_def J_burinlaw07_LexBack_1.eq_1 ?_
   refine Tw ?_
   refine Tw ?_
   refine bq_if hb rfl (fun c37 hb => ?_) (fun c37 hb => ?_)
   ·have hq := Option.some.inj hb
    subst hq
    try dsimp only at hr35
    have hb := hr35
    have hb := Option.some.inj hb
    subst hb
    have X := And.intro c37 X
    refine Tw ?_
    exact endI rfl
   ·have X := And.intro c37 X
    refine Tw ?_
    refine bq_if hb rfl (fun c39 hb => ?_) (fun c39 hb => ?_)
    ·have hq := Option.some.inj hb
     subst hq
     try dsimp only at hr35
     have hb := hr35
     have hb := Option.some.inj hb
     subst hb
     have X := And.intro c39 X
     refine Tw ?_
     exact endI rfl
    ·have hb := Option.some.inj hb
     subst hb
     have X := And.intro c39 X
     refine Tw ?_
     exact hX36 _ rfl Cw
  ·intro f41 ej Y43
   subst ej
   try dsimp only at hb
   have X := And.intro Y43 X
   refine Tw ?_
   refine bnd1 hb (fun q99 h100 hb => ?_)
   refine G_burinlaw07_LexBack_L1_ok (o51 := o11) (e52 := e4) (M53 := M12) (head_55 := r8) (o57 := o26) (e58 := e27) (M59 := M28) _ _ h100 s13 s29 _ _ Cw trivial trivial ?_ ?_
   ·intro f87 h88 ex Y89 Y91
    subst ex
    try dsimp only at hb
    have hb := Option.some.inj hb
    subst hb
    have X := And.intro Y89 X
    refine Tw ?_
    exact endI rfl
   ·intro f93 h94 ex Y95 Y97
    subst ex
    try dsimp only at hb
    have hb := Option.some.inj hb
    subst hb
    have X := And.intro Y95 X
    refine Tw ?_
    exact endI rfl
end Go.Proofs.YtmngkcpobmhnoaaGreatDoor.Sim
