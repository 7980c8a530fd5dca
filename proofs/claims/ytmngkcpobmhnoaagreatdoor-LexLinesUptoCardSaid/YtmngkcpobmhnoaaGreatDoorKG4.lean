/- Printed functions, continued. -/
import Derived.Test.YtmngkcpobmhnoaaGreatDoorKG3
set_option linter.all false
set_option maxHeartbeats 4000000
set_option maxRecDepth 20000
namespace Go.Proofs.YtmngkcpobmhnoaaGreatDoor.Sim
def G_lex_Words_L1  : List T_api_Word × List T_api_Tok → Option ((List T_api_Word × List T_api_Tok) ⊕ (Ex2 (List T_api_Word × Bytes × Int × List T_api_Tok) (List T_api_Word × List T_api_Tok))) := fun (v35, v45) =>
 if (decide ((0 : Int) < ((List.length v45 : Nat) : Int))) then
  idx v45 (0 : Int) >>= fun x64 =>
  if (!(x64.Kind_ == (4 : Int))) then
   subF v45 (1 : Int) >>= fun t70 =>
   G_lex_wordOf x64 >>= fun (r75, r76) =>
   if (!r76) then
    some (Sum.inr (Ex2.a (v35, x64.File_, x64.Line_, t70)))
   else
    app 64 v35 [r75] >>= fun t92 =>
    some (Sum.inl (t92, t70))
  else
   loopO (G_lex_Words_L2) (v45, ([] : Bytes)) >>= fun q227 => match q227 with
    | .a (v206, v211) =>
     if (decide ((4096 : Int) < ((List.length v211 : Nat) : Int))) then
      some (Sum.inr (Ex2.a (v35, x64.File_, x64.Line_, v206)))
     else
      app 64 v35 [(T_api_Word.mk (4 : Int) v211 (0 : Int) (0 : Int) x64.File_ x64.Line_)] >>= fun t250 =>
      some (Sum.inl (t250, v206))
    | .b (v218, v219, v220, v225) =>
     some (Sum.inr (Ex2.a (v35, v218, v219, v220)))
 else
  some (Sum.inr (Ex2.b (v35, v45)))
theorem G_lex_Words_L1_ok {κ : Kt} {t : Blk κ} {v41 : Bool} {v42 : Bytes} {v43 : Int} {b34 : Nat} {b40 : Nat} {b44 : Nat} {l50 : Nat} {g51 : Fr} (v35 : List T_api_Word) (v45 : List T_api_Tok) (x : Ex2 (List T_api_Word × Bytes × Int × List T_api_Tok) (List T_api_Word × List T_api_Tok)) (hx : loopO (G_lex_Words_L1) (v35, v45) = some x) : ∀ (f29 : Fr) (h30 : Heap) (o36 : Own) (e37 : Nat) (M38 : List (List PV)) (o46 : Own) (e47 : Nat) (M48 : List (List PV)), (f29 0 = (.yield l50) ∧ f29 1 = (.ptr b44 0)) → (h30.box b34 = some [(.slice o36 e37 M38)] ∧ h30.box b40 = some [(.bool v41), (.str v42), (.int .i64 v43)] ∧ h30.box b44 = some [(.slice o46 e47 M48)] ∧ h30.loop l50 = some ⟨.ready, none, g51, [12, 13], A_lex_Words_1, Y_lex_Words_1⟩ ∧ g51 6 = (.ptr b34 0) ∧ g51 7 = (.ptr b40 0) ∧ OwnOK h30 o36) → (b34 < b40 ∧ b40 < b44 ∧ b44 < l50 ∧ l50 < h30.n) → SlR 6 T_api_Word.R o36 e37 v35 M38 → SlR 6 T_api_Tok.R o46 e47 v45 M48 → (∀ (f269 : Fr) (h270 : Heap) (v274 : List T_api_Word) (v279 : Bytes) (v280 : Int) (v281 : List T_api_Tok) (o275 : Own) (e276 : Nat) (M277 : List (List PV)) (o282 : Own) (e283 : Nat) (M284 : List (List PV)), Ex2.a (v274, v279, v280, v281) = x → (h270.box b34 = some [(.slice o275 e276 M277)] ∧ h270.box b40 = some [(.bool true), (.str v279), (.int .i64 v280)] ∧ h270.box b44 = some [(.slice o282 e283 M284)] ∧ h270.loop l50 = some ⟨.done, (some (.exit 0)), g51, [12, 13], A_lex_Words_1, Y_lex_Words_1⟩ ∧ OwnOK h270 o275) → (b34 < b40 ∧ b40 < b44 ∧ b44 < l50 ∧ l50 < h270.n) → SlR 6 T_api_Word.R o275 e276 v274 M277 → SlR 6 T_api_Tok.R o282 e283 v281 M284 → κ.R f269 h270) → (∀ (f287 : Fr) (h288 : Heap) (v292 : List T_api_Word) (v297 : List T_api_Tok) (o293 : Own) (e294 : Nat) (M295 : List (List PV)) (o298 : Own) (e299 : Nat) (M300 : List (List PV)), Ex2.b (v292, v297) = x → (h288.box b34 = some [(.slice o293 e294 M295)] ∧ h288.box b40 = some [(.bool v41), (.str v42), (.int .i64 v43)] ∧ h288.box b44 = some [(.slice o298 e299 M300)] ∧ h288.loop l50 = some ⟨.ready, none, g51, [12, 13], A_lex_Words_1, Y_lex_Words_1⟩ ∧ OwnOK h288 o293) → (b34 < b40 ∧ b40 < b44 ∧ b44 < l50 ∧ l50 < h288.n) → SlR 6 T_api_Word.R o293 e294 v292 M295 → SlR 6 T_api_Tok.R o298 e299 v297 M300 → κ.B 0 f287 h288) → Lq E (.loop L_lex_words_1_1) κ t f29 h30 := by
 revert v35 v45 x
 refine loop2' ?_
 intro v35 v45 r hb x hn f29 h30 o36 e37 M38 o46 e47 M48 Y31 Y32 Y33 s39 s49 ex0 ex1
 dsimp only [G_lex_Words_L1] at hb
 refine loop_step L_lex_words_1_1.eq_1 ?_
 have X := And.intro Y31 (And.intro Y32 (And.intro s39.len (s49.len)))
 refine Tw ?_
 refine Tw ?_
 refine bq_if hb rfl (fun c63 hb => ?_) (fun c63 hb => ?_)
 ·have X := And.intro c63 X
  refine Tw ?_
  refine vq_iaddr s49 hb (fun x64 cs65 hx64 hb hcs65 => ?_)
  cases (show cs65 = [(.int .i64 x64.Kind_), (.str x64.S_), (.str x64.File_), (.int .i64 x64.Line_), (.bool x64.Space_), (.bool x64.First_)] from hcs65)
  refine Tw ?_
  refine bq_if hb rfl (fun c69 hb => ?_) (fun c69 hb => ?_)
  ·have X := And.intro c69 X
   refine Tw ?_
   refine vq_subF s49 hb (fun t70 o71 M72 ht70 hb s73 => ?_)
   have X := And.intro s73.len X
   refine Tw ?_
   refine bnd2 hb (fun r75 r76 h77 hb => ?_)
   try dsimp only at hb
   refine pq_eq (G_lex_wordOf_ok h77) ?_
   refine Tw ?_
   refine fq_yield (tm := g51) (ps := [12, 13]) (as := A_lex_Words_1) (bd := Y_lex_Words_1) Cw (by rfl) ?_
   refine wq_def A_lex_Words_1.eq_1 ?_
   refine Tw ?_
   refine Tw ?_
   refine wq_def Y_lex_Words_1.eq_1 ?_
   refine Tw ?_
   refine Tw ?_
   refine bq_if hb rfl (fun c88 hb => ?_) (fun c88 hb => ?_)
   ·have X := And.intro c88 X
    refine Tw ?_
    have hb := Option.some.inj hb
    subst hb
    have hn : _ = _ := hn
    subst hn
    refine Tw ?_
    exact ex0 _ _ v35 x64.File_ x64.Line_ t70 o36 e37 M38 o71 e47 M72 rfl Cw Cn s39 s73
   ·have X := And.intro c88 X
    refine Tw ?_
    refine vq_bsl rfl ?_
    refine Tw ?_
    refine vq_app s39 Cw (show SlR 6 T_api_Word.R (.own (h30.n + 1 + 1 + 1 + 1) false) 6 ([r75] : List T_api_Word) [[(.int .i64 r75.Kind_), (.str r75.S_), (.int .i64 r75.V_), (.int .i64 r75.T_), (.str r75.File_), (.int .i64 r75.Line_)]] from (slr_cons (by simp) rfl (slr_0 (R := T_api_Word.R)))) hb (fun t92 o93 M94 h95 ht92 hb s96 O97 F98 => ?_)
    have q99 := F98.n
    try simp only [HN] at q99
    have X := And.intro F98.box (And.intro F98.loop (And.intro F98.bty (And.intro O97 (And.intro s96.len X))))
    refine Tw ?_
    have hb := Option.some.inj hb
    subst hb
    refine Tw ?_
    exact hn _ _ o93 6 M94 o71 e47 M72 Cw Cw Cn s96 s73 ex0 ex1
  ·have X := And.intro c69 X
   refine Tw ?_
   refine bnd1 hb (fun q227 h228 hb => ?_)
   refine G_lex_Words_L2_ok (v112 := v35) (o113 := o36) (e114 := e37) (M115 := M38) (v118 := v41) (v119 := v42) (v120 := v43) (v128 := x64.Kind_) (v129 := x64.S_) (v130 := x64.File_) (v131 := x64.Line_) (v132 := x64.Space_) (v133 := x64.First_) (v135 := (4 : Int)) (v137 := (0 : Int)) (v138 := (0 : Int)) (v139 := x64.File_) (v140 := x64.Line_) (b111 := b34) (b117 := b40) (b121 := b44) (b127 := h30.n) (b134 := (h30.n + 1)) (l141 := l50) (g142 := g51) _ _ _ h228 s39 _ _ o46 e47 M48 Cw Cw Cn s49 ?_ ?_
   ·intro f201 h202 v206 v211 o207 e208 M209 ex Y203 Y205 s210
    subst ex
    try dsimp only at hb
    have X := And.intro Y203 (And.intro s210.len X)
    refine Tw ?_
    refine fq_yield (tm := g51) (ps := [12, 13]) (as := A_lex_Words_1) (bd := Y_lex_Words_1) Cw (by rfl) ?_
    refine wq_def A_lex_Words_1.eq_1 ?_
    refine Tw ?_
    refine Tw ?_
    refine wq_def Y_lex_Words_1.eq_1 ?_
    refine Tw ?_
    refine Tw ?_
    refine bq_if hb rfl (fun c246 hb => ?_) (fun c246 hb => ?_)
    ·have X := And.intro c246 X
     refine Tw ?_
     have hb := Option.some.inj hb
     subst hb
     have hn : _ = _ := hn
     subst hn
     refine Tw ?_
     exact ex0 _ _ v35 x64.File_ x64.Line_ v206 o36 e37 M38 o207 e208 M209 rfl Cw Cn s39 s210
    ·have X := And.intro c246 X
     refine Tw ?_
     refine vq_bsl rfl ?_
     refine Tw ?_
     refine vq_app s39 Cw (show SlR 6 T_api_Word.R (.own (h202.n + 1 + 1) false) 6 ([(T_api_Word.mk (4 : Int) v211 (0 : Int) (0 : Int) x64.File_ x64.Line_)] : List T_api_Word) [[(.int .i64 (4 : Int)), (.str v211), (.int .i64 (0 : Int)), (.int .i64 (0 : Int)), (.str x64.File_), (.int .i64 x64.Line_)]] from (slr_cons (by simp) rfl (slr_0 (R := T_api_Word.R)))) hb (fun t250 o251 M252 h253 ht250 hb s254 O255 F256 => ?_)
     have q257 := F256.n
     try simp only [HN] at q257
     have X := And.intro F256.box (And.intro F256.loop (And.intro F256.bty (And.intro O255 (And.intro s254.len X))))
     refine Tw ?_
     have hb := Option.some.inj hb
     subst hb
     refine Tw ?_
     exact hn _ _ o251 6 M252 o207 e208 M209 Cw Cw Cn s254 s210 ex0 ex1
   ·intro f213 h214 v218 v219 v220 v225 o221 e222 M223 ex Y215 Y217 s224
    subst ex
    try dsimp only at hb
    have hb := Option.some.inj hb
    subst hb
    have hn : _ = _ := hn
    subst hn
    have X := And.intro Y215 (And.intro s224.len X)
    refine Tw ?_
    exact ex0 _ _ v35 v218 v219 v220 o36 e37 M38 o221 e222 M223 rfl Cw Cn s39 s224
 ·have hb := Option.some.inj hb
  subst hb
  have hn : _ = _ := hn
  subst hn
  have X := And.intro c63 X
  refine Tw ?_
  exact ex1 _ _ v35 v45 o36 e37 M38 o46 e47 M48 rfl Cw Cn s39 s49
def G_lex_Words (l_2 : List T_api_Tok) : Option (List T_api_Word × Int × Bytes × Int) :=
 (
  loopO (G_lex_Words_L1) (([] : List T_api_Word), l_2) >>= fun q303 => match q303 with
   | .a (v274, v279, v280, v281) =>
    some (v274, true, v279, v280)
   | .b (v292, v297) =>
    some (v292, false, [], (0 : Int))
 ) >>= fun (v324, v329, v330, v331) =>
 if v329 then
  some (([] : List T_api_Word), (70 : Int), v330, v331)
 else
  some (v324, (0 : Int), ([] : Bytes), (0 : Int))
theorem G_lex_Words_ok {l_2 : List T_api_Tok} {o3 : Own} {e4 : Nat} {M5 : List (List PV)} {r7 : List T_api_Word} {r8 : Int} {r9 : Bytes} {r10 : Int} (hx : G_lex_Words l_2 = some (r7, r8, r9, r10)) (s6 : SlR 6 T_api_Tok.R o3 e4 l_2 M5) : PureE E 15 [(.slice o3 e4 M5)] (fun v => ∃ o11 e12 M13, v = (.tuple [(.slice o11 e12 M13), (.int .i64 r8), (.str r9), (.int .i64 r10)]) ∧ SlR 6 T_api_Word.R o11 e12 r7 M13) := by
 refine pureE_ok fn_lex_Words rfl ?_
 have hb := hx
 dsimp only [G_lex_Words] at hb
 have X := s6.len
 refine Tw ?_
 refine bnd1 hb (fun j333 hj hb => ?_)
 refine wq_join (fun Z => ∀ (f319 : Fr) (h320 : Heap) (v324 : List T_api_Word) (v329 : Bool) (v330 : Bytes) (v331 : Int) (o325 : Own) (e326 : Nat) (M327 : List (List PV)), (v324, v329, v330, v331) = j333 → (f319 6 = (.ptr 0 0) ∧ f319 7 = (.ptr 1 0) ∧ h320.box 0 = some [(.slice o325 e326 M327)] ∧ h320.box 1 = some [(.bool v329), (.str v330), (.int .i64 v331)] ∧ OwnOK h320 o325) → (0 < 1 ∧ 1 < h320.n) → SlR 6 T_api_Word.R o325 e326 v324 M327 → Z f319 h320) (fun Z hX21 => ?_) ?_
 ·have hr20 := hb
  clear hb
  have hb := hj
  clear hj
  refine wq_def J_lex_Words_1.eq_1 ?_
  refine Tw ?_
  refine Tw ?_
  refine fq_in fn_lex_words (by rfl) ?_
  refine Tw ?_
  refine Tw ?_
  refine lq_range (E := E) (k := 54) (first := []) (cap := [(.ptr 2 0)]) fn_lex_words_1 Cw (by rfl) (fun g25 eg25 => ?_)
  have qg25 : g25 6 = (.ptr 0 0) ∧ g25 7 = (.ptr 1 0) := by rw [eg25]; exact Cw
  have X := And.intro qg25 X
  refine Tw ?_
  refine bnd1 hb (fun q303 h304 hb => ?_)
  refine G_lex_Words_L1_ok (v41 := false) (v42 := []) (v43 := (0 : Int)) (b34 := 0) (b40 := 1) (b44 := 2) (l50 := 3) (g51 := g25) _ _ _ h304 _ _ .nil 0 [] o3 e4 M5 Cw Cw Cn slr_nil s6 ?_ ?_
  ·intro f269 h270 v274 v279 v280 v281 o275 e276 M277 o282 e283 M284 ex Y271 Y273 s278 s285
   subst ex
   try dsimp only at hb
   have X := And.intro Y271 (And.intro s278.len (And.intro s285.len X))
   refine Tw ?_
   have hb := Option.some.inj hb
   subst hb
   refine Tw ?_
   exact hX21 _ _ v274 true v279 v280 o275 e276 M277 rfl Cw Cn s278
  ·intro f287 h288 v292 v297 o293 e294 M295 o298 e299 M300 ex Y289 Y291 s296 s301
   subst ex
   try dsimp only at hb
   have X := And.intro Y289 (And.intro s296.len (And.intro s301.len X))
   refine Tw ?_
   have hb := Option.some.inj hb
   subst hb
   refine Tw ?_
   exact hX21 _ _ v292 false [] (0 : Int) o293 e294 M295 rfl Cw Cn s296
 ·intro f319 h320 v324 v329 v330 v331 o325 e326 M327 ej Y321 Y323 s328
  subst ej
  try dsimp only at hb
  have X := And.intro Y321 (And.intro s328.len X)
  refine Tw ?_
  refine bq_if hb rfl (fun c339 hb => ?_) (fun c339 hb => ?_)
  ·have hb := Option.some.inj hb
   obtain ⟨e0, hb⟩ := Prod.mk.inj hb
   obtain ⟨e1, hb⟩ := Prod.mk.inj hb
   obtain ⟨e2, e3⟩ := Prod.mk.inj hb
   subst e0
   subst e1
   subst e2
   subst e3
   have X := And.intro c339 X
   refine Tw ?_
   exact endI ⟨.nil, 0, [], rfl, (slr_nil (R := T_api_Word.R)).st⟩
  ·have hb := Option.some.inj hb
   obtain ⟨e0, hb⟩ := Prod.mk.inj hb
   obtain ⟨e1, hb⟩ := Prod.mk.inj hb
   obtain ⟨e2, e3⟩ := Prod.mk.inj hb
   subst e0
   subst e1
   subst e2
   subst e3
   have X := And.intro c339 X
   refine Tw ?_
   exact endI ⟨(stO o325), e326, M327, rfl, s328.st⟩
def G_burinref02_blank (c_2 : Int) : Option (Bool) :=
 if (c_2 == (32 : Int)) then
  some true
 else
  if (c_2 == (9 : Int)) then
   some true
  else
   if (c_2 == (11 : Int)) then
    some true
   else
    some (c_2 == (12 : Int))
theorem G_burinref02_blank_ok {c_2 : Int} {r3 : Bool} (hx : G_burinref02_blank c_2 = some r3) : PureE E 145 [(.int .u8 c_2)] (fun v => v = (.bool r3)) := by
 refine pureE_ok fn_burinref02_blank rfl ?_
 have hb := hx
 dsimp only [G_burinref02_blank] at hb
 have X := True.intro
 refine Tw ?_
 refine bq_if hb rfl (fun c4 hb => ?_) (fun c4 hb => ?_)
 ·have hb := Option.some.inj hb
  subst hb
  have X := And.intro c4 X
  refine Tw ?_
  exact endI rfl
 ·have X := And.intro c4 X
  refine Tw ?_
  refine bq_if hb rfl (fun c5 hb => ?_) (fun c5 hb => ?_)
  ·have hb := Option.some.inj hb
   subst hb
   have X := And.intro c5 X
   refine Tw ?_
   exact endI rfl
  ·have X := And.intro c5 X
   refine Tw ?_
   refine bq_if hb rfl (fun c6 hb => ?_) (fun c6 hb => ?_)
   ·have hb := Option.some.inj hb
    subst hb
    have X := And.intro c6 X
    refine Tw ?_
    exact endI rfl
   ·have hb := Option.some.inj hb
    subst hb
    have X := And.intro c6 X
    refine Tw ?_
    exact endI rfl
def G_burinref02_letter (c_2 : Int) : Option (Bool) :=
 if (decide ((97 : Int) ≤ c_2)) then
  if (decide (c_2 ≤ (122 : Int))) then
   some true
  else
   if (decide ((65 : Int) ≤ c_2)) then
    if (decide (c_2 ≤ (90 : Int))) then
     some true
    else
     some (c_2 == (95 : Int))
   else
    some (c_2 == (95 : Int))
 else
  if (decide ((65 : Int) ≤ c_2)) then
   if (decide (c_2 ≤ (90 : Int))) then
    some true
   else
    some (c_2 == (95 : Int))
  else
   some (c_2 == (95 : Int))
theorem G_burinref02_letter_ok {c_2 : Int} {r3 : Bool} (hx : G_burinref02_letter c_2 = some r3) : PureE E 186 [(.int .u8 c_2)] (fun v => v = (.bool r3)) := by
 refine pureE_ok fn_burinref02_letter rfl ?_
 have hb := hx
 dsimp only [G_burinref02_letter] at hb
 have X := True.intro
 refine Tw ?_
 refine bq_if hb rfl (fun c4 hb => ?_) (fun c4 hb => ?_)
 ·have X := And.intro c4 X
  refine Tw ?_
  refine bq_if hb rfl (fun c5 hb => ?_) (fun c5 hb => ?_)
  ·have hb := Option.some.inj hb
   subst hb
   have X := And.intro c5 X
   refine Tw ?_
   exact endI rfl
  ·have X := And.intro c5 X
   refine Tw ?_
   refine bq_if hb rfl (fun c6 hb => ?_) (fun c6 hb => ?_)
   ·have X := And.intro c6 X
    refine Tw ?_
    refine bq_if hb rfl (fun c7 hb => ?_) (fun c7 hb => ?_)
    ·have hb := Option.some.inj hb
     subst hb
     have X := And.intro c7 X
     refine Tw ?_
     exact endI rfl
    ·have hb := Option.some.inj hb
     subst hb
     have X := And.intro c7 X
     refine Tw ?_
     exact endI rfl
   ·have hb := Option.some.inj hb
    subst hb
    have X := And.intro c6 X
    refine Tw ?_
    exact endI rfl
 ·have X := And.intro c4 X
  refine Tw ?_
  refine bq_if hb rfl (fun c8 hb => ?_) (fun c8 hb => ?_)
  ·have X := And.intro c8 X
   refine Tw ?_
   refine bq_if hb rfl (fun c9 hb => ?_) (fun c9 hb => ?_)
   ·have hb := Option.some.inj hb
    subst hb
    have X := And.intro c9 X
    refine Tw ?_
    exact endI rfl
   ·have hb := Option.some.inj hb
    subst hb
    have X := And.intro c9 X
    refine Tw ?_
    exact endI rfl
  ·have hb := Option.some.inj hb
   subst hb
   have X := And.intro c8 X
   refine Tw ?_
   exact endI rfl
def G_burinref02_digit (c_2 : Int) : Option (Bool) :=
 if (decide ((48 : Int) ≤ c_2)) then
  some (decide (c_2 ≤ (57 : Int)))
 else
  some false
theorem G_burinref02_digit_ok {c_2 : Int} {r3 : Bool} (hx : G_burinref02_digit c_2 = some r3) : PureE E 187 [(.int .u8 c_2)] (fun v => v = (.bool r3)) := by
 refine pureE_ok fn_burinref02_digit rfl ?_
 have hb := hx
 dsimp only [G_burinref02_digit] at hb
 have X := True.intro
 refine Tw ?_
 refine bq_if hb rfl (fun c4 hb => ?_) (fun c4 hb => ?_)
 ·have hb := Option.some.inj hb
  subst hb
  have X := And.intro c4 X
  refine Tw ?_
  exact endI rfl
 ·have hb := Option.some.inj hb
  subst hb
  have X := And.intro c4 X
  refine Tw ?_
  exact endI rfl
def G_burinref02_name_L1 (s_21 : Bytes) : Int → Option ((Int) ⊕ (Int)) := fun n_22 =>
 if (decide (n_22 < ((List.length s_21 : Nat) : Int))) then
  idx s_21 n_22 >>= fun x33 =>
  G_burinref02_letter (x33.toNat : Int) >>= fun r34 =>
  if r34 then
   some (Sum.inl (IntKind.wrap .i64 (n_22 + (1 : Int))))
  else
   idx s_21 n_22 >>= fun x37 =>
   G_burinref02_digit (x37.toNat : Int) >>= fun r38 =>
   if r38 then
    some (Sum.inl (IntKind.wrap .i64 (n_22 + (1 : Int))))
   else
    some (Sum.inr n_22)
 else
  some (Sum.inr n_22)
theorem G_burinref02_name_L1_ok {κ : Kt} {t : Blk κ} {s_21 : Bytes} {h24 : Heap} (n_22 : Int) (x : Int) (hx : loopO (G_burinref02_name_L1 s_21) n_22 = some x) (hh : True) (ho : True) : ∀ (f23 : Fr), (f23 0 = (.str s_21) ∧ f23 3 = (.int .i64 n_22)) → (∀ (f42 : Fr) (n_41 : Int), n_41 = x → (f42 3 = (.int .i64 n_41)) → κ.B 0 f42 h24) → Lq E (.loop L_burinref02_name_1) κ t f23 h24 := by
 revert n_22 x
 refine loop1' ?_
 intro n_22 r hb x hn f23  Y25  ex0
 dsimp only [G_burinref02_name_L1] at hb
 refine loop_step L_burinref02_name_1.eq_1 ?_
 have X := Y25
 refine Tw ?_
 refine Tw ?_
 refine bq_if hb rfl (fun c32 hb => ?_) (fun c32 hb => ?_)
 ·have X := And.intro c32 X
  refine Tw ?_
  refine vq_idxS hb (fun x33 hx33 hb => ?_)
  refine Tw ?_
  refine bnd1 hb (fun r34 h35 hb => ?_)
  refine pq_eq (G_burinref02_letter_ok h35) ?_
  refine Tw ?_
  refine bq_if hb rfl (fun c36 hb => ?_) (fun c36 hb => ?_)
  ·have hb := Option.some.inj hb
   subst hb
   have X := And.intro c36 X
   refine Tw ?_
   exact hn _  Cw ex0
  ·have X := And.intro c36 X
   refine Tw ?_
   refine vq_idxS hb (fun x37 hx37 hb => ?_)
   refine Tw ?_
   refine bnd1 hb (fun r38 h39 hb => ?_)
   refine pq_eq (G_burinref02_digit_ok h39) ?_
   refine Tw ?_
   refine bq_if hb rfl (fun c40 hb => ?_) (fun c40 hb => ?_)
   ·have hb := Option.some.inj hb
    subst hb
    have X := And.intro c40 X
    refine Tw ?_
    exact hn _  Cw ex0
   ·have hb := Option.some.inj hb
    subst hb
    have hn : _ = _ := hn
    subst hn
    have X := And.intro c40 X
    refine Tw ?_
    exact ex0 _ n_22 rfl Cw
 ·have hb := Option.some.inj hb
  subst hb
  have hn : _ = _ := hn
  subst hn
  have X := And.intro c32 X
  refine Tw ?_
  exact ex0 _ n_22 rfl Cw
def G_burinref02_name (s_2 : Bytes) : Option (Int) :=
 (
  if (((List.length s_2 : Nat) : Int) == (0 : Int)) then
   some (Ex2.a (0 : Int))
  else
   idx s_2 (0 : Int) >>= fun x9 =>
   G_burinref02_letter (x9.toNat : Int) >>= fun r10 =>
   if (!r10) then
    some (Ex2.a (0 : Int))
   else
    some (Ex2.b ())
 ) >>= fun j19 => match j19 with
  | .a q => some q
  | .b () =>
   loopO (G_burinref02_name_L1 s_2) (1 : Int) >>= fun n_41 =>
   some n_41
theorem G_burinref02_name_ok {s_2 : Bytes} {r3 : Int} (hx : G_burinref02_name s_2 = some r3) : PureE E 165 [(.str s_2)] (fun v => v = (.int .i64 r3)) := by
 refine pureE_ok fn_burinref02_name rfl ?_
 have hb := hx
 dsimp only [G_burinref02_name] at hb
 have X := True.intro
 refine Tw ?_
 refine bnd1 hb (fun j19 hj hb => ?_)
 refine wq_joinF (fun Z => ∀ (f14 : Fr), Ex2.b () = j19 → (f14 0 = (.str s_2)) → Z f14) (fun Z hX6 => ?_) ?_
 ·have hr5 := hb
  clear hb
  have hb := hj
  clear hj
  refine wq_def J_burinref02_name_1.eq_1 ?_
  refine Tw ?_
  refine Tw ?_
  refine bq_if hb rfl (fun c7 hb => ?_) (fun c7 hb => ?_)
  ·have hq := Option.some.inj hb
   subst hq
   try dsimp only at hr5
   have hb := hr5
   have hb := Option.some.inj hb
   subst hb
   have X := And.intro c7 X
   refine Tw ?_
   exact endI rfl
  ·have X := And.intro c7 X
   refine Tw ?_
   refine vq_idxS hb (fun x9 hx9 hb => ?_)
   refine Tw ?_
   refine bnd1 hb (fun r10 h11 hb => ?_)
   refine pq_eq (G_burinref02_letter_ok h11) ?_
   refine Tw ?_
   refine bq_if hb rfl (fun c12 hb => ?_) (fun c12 hb => ?_)
   ·have hq := Option.some.inj hb
    subst hq
    try dsimp only at hr5
    have hb := hr5
    have hb := Option.some.inj hb
    subst hb
    have X := And.intro c12 X
    refine Tw ?_
    exact endI rfl
   ·have hb := Option.some.inj hb
    subst hb
    have X := And.intro c12 X
    refine Tw ?_
    exact hX6 _ rfl Cw
 ·intro f14 ej Y16
  subst ej
  try dsimp only at hb
  have X := And.intro Y16 X
  refine Tw ?_
  refine bnd1 hb (fun q47 h48 hb => ?_)
  refine G_burinref02_name_L1_ok _ _ h48 trivial trivial _ Cw ?_
  ·intro f42 n_41 ex Y44
   subst ex
   have hb := Option.some.inj hb
   subst hb
   have X := And.intro Y44 X
   refine Tw ?_
   exact endI rfl
def G_burinref02_number_L1 (s_40 : Bytes) : Int → Option ((Int) ⊕ (Int)) := fun n_41 =>
 (
  if (decide ((0 : Int) < n_41)) then
   if (decide (n_41 < ((List.length s_40 : Nat) : Int))) then
    some (Ex2.b ())
   else
    some (Ex2.a (Sum.inr n_41))
  else
   some (Ex2.a (Sum.inr n_41))
 ) >>= fun j63 => match j63 with
  | .a q => some q
  | .b () =>
   (
    idx s_40 (IntKind.wrap .i64 (n_41 - (1 : Int))) >>= fun x69 =>
    if ((x69.toNat : Int) == (101 : Int)) then
     some true
    else
     idx s_40 (IntKind.wrap .i64 (n_41 - (1 : Int))) >>= fun x71 =>
     if ((x71.toNat : Int) == (69 : Int)) then
      some true
     else
      idx s_40 (IntKind.wrap .i64 (n_41 - (1 : Int))) >>= fun x73 =>
      if ((x73.toNat : Int) == (112 : Int)) then
       some true
      else
       idx s_40 (IntKind.wrap .i64 (n_41 - (1 : Int))) >>= fun x75 =>
       some ((x75.toNat : Int) == (80 : Int))
   ) >>= fun exp_76 =>
   idx s_40 n_41 >>= fun x86 =>
   G_burinref02_letter (x86.toNat : Int) >>= fun r87 =>
   if (!r87) then
    idx s_40 n_41 >>= fun x90 =>
    G_burinref02_digit (x90.toNat : Int) >>= fun r91 =>
    if (!r91) then
     idx s_40 n_41 >>= fun x94 =>
     if (!((x94.toNat : Int) == (46 : Int))) then
      if exp_76 then
       idx s_40 n_41 >>= fun x97 =>
       if ((x97.toNat : Int) == (43 : Int)) then
        some (Sum.inl (IntKind.wrap .i64 (n_41 + (1 : Int))))
       else
        idx s_40 n_41 >>= fun x99 =>
        if (!((x99.toNat : Int) == (45 : Int))) then
         some (Sum.inr n_41)
        else
         some (Sum.inl (IntKind.wrap .i64 (n_41 + (1 : Int))))
      else
       some (Sum.inr n_41)
     else
      some (Sum.inl (IntKind.wrap .i64 (n_41 + (1 : Int))))
    else
     some (Sum.inl (IntKind.wrap .i64 (n_41 + (1 : Int))))
   else
    some (Sum.inl (IntKind.wrap .i64 (n_41 + (1 : Int))))
theorem G_burinref02_number_L1_ok {κ : Kt} {t : Blk κ} {s_40 : Bytes} {h43 : Heap} (n_41 : Int) (x : Int) (hx : loopO (G_burinref02_number_L1 s_40) n_41 = some x) (hh : True) (ho : True) : ∀ (f42 : Fr), (f42 0 = (.str s_40) ∧ f42 3 = (.int .i64 n_41)) → (∀ (f102 : Fr) (n_101 : Int), n_101 = x → (f102 3 = (.int .i64 n_101)) → κ.B 0 f102 h43) → Lq E (.loop L_burinref02_number_1) κ t f42 h43 := by
 revert n_41 x
 refine loop1' ?_
 intro n_41 r hb x hn f42  Y44  ex0
 dsimp only [G_burinref02_number_L1] at hb
 refine loop_step L_burinref02_number_1.eq_1 ?_
 have X := Y44
 refine Tw ?_
 refine Tw ?_
 refine bnd1 hb (fun j63 hj hb => ?_)
 refine wq_joinF (fun Z => ∀ (f58 : Fr), Ex2.b () = j63 → (f58 0 = (.str s_40) ∧ f58 3 = (.int .i64 n_41)) → Z f58) (fun Z hX53 => ?_) ?_
 ·have hr52 := hb
  clear hb
  have hb := hj
  clear hj
  refine wq_def J_burinref02_number_3.eq_1 ?_
  refine Tw ?_
  refine Tw ?_
  refine bq_if hb rfl (fun c54 hb => ?_) (fun c54 hb => ?_)
  ·have X := And.intro c54 X
   refine Tw ?_
   refine bq_if hb rfl (fun c55 hb => ?_) (fun c55 hb => ?_)
   ·have hb := Option.some.inj hb
    subst hb
    have X := And.intro c55 X
    refine Tw ?_
    exact hX53 _ rfl Cw
   ·have hq := Option.some.inj hb
    subst hq
    try dsimp only at hr52
    have hb := hr52
    have hb := Option.some.inj hb
    subst hb
    have hn : _ = _ := hn
    subst hn
    have X := And.intro c55 X
    refine Tw ?_
    exact ex0 _ n_41 rfl Cw
  ·have hq := Option.some.inj hb
   subst hq
   try dsimp only at hr52
   have hb := hr52
   have hb := Option.some.inj hb
   subst hb
   have hn : _ = _ := hn
   subst hn
   have X := And.intro c54 X
   refine Tw ?_
   exact ex0 _ n_41 rfl Cw
 ·intro f58 ej Y60
  subst ej
  try dsimp only at hb
  have X := And.intro Y60 X
  refine Tw ?_
  refine bnd1 hb (fun j82 hj hb => ?_)
  refine wq_joinF (fun Z => ∀ (f77 : Fr) (exp_76 : Bool), exp_76 = j82 → (f77 0 = (.str s_40) ∧ f77 3 = (.int .i64 n_41) ∧ f77 4 = (.bool exp_76)) → Z f77) (fun Z hX68 => ?_) ?_
  ·have hr67 := hb
   clear hb
   have hb := hj
   clear hj
   refine wq_def J_burinref02_number_4.eq_1 ?_
   refine Tw ?_
   refine Tw ?_
   refine vq_idxS hb (fun x69 hx69 hb => ?_)
   refine Tw ?_
   refine bq_if hb rfl (fun c70 hb => ?_) (fun c70 hb => ?_)
   ·have hb := Option.some.inj hb
    subst hb
    have X := And.intro c70 X
    refine Tw ?_
    exact hX68 _ true rfl Cw
   ·have X := And.intro c70 X
    refine Tw ?_
    refine vq_idxS hb (fun x71 hx71 hb => ?_)
    refine Tw ?_
    refine bq_if hb rfl (fun c72 hb => ?_) (fun c72 hb => ?_)
    ·have hb := Option.some.inj hb
     subst hb
     have X := And.intro c72 X
     refine Tw ?_
     exact hX68 _ true rfl Cw
    ·have X := And.intro c72 X
     refine Tw ?_
     refine vq_idxS hb (fun x73 hx73 hb => ?_)
     refine Tw ?_
     refine bq_if hb rfl (fun c74 hb => ?_) (fun c74 hb => ?_)
     ·have hb := Option.some.inj hb
      subst hb
      have X := And.intro c74 X
      refine Tw ?_
      exact hX68 _ true rfl Cw
     ·have X := And.intro c74 X
      refine Tw ?_
      refine vq_idxS hb (fun x75 hx75 hb => ?_)
      have hb := Option.some.inj hb
      subst hb
      refine Tw ?_
      exact hX68 _ ((x75.toNat : Int) == (80 : Int)) rfl Cw
  ·intro f77 exp_76 ej Y79
   subst ej
   try dsimp only at hb
   have X := And.intro Y79 X
   refine Tw ?_
   refine vq_idxS hb (fun x86 hx86 hb => ?_)
   refine Tw ?_
   refine bnd1 hb (fun r87 h88 hb => ?_)
   refine pq_eq (G_burinref02_letter_ok h88) ?_
   refine Tw ?_
   refine bq_if hb rfl (fun c89 hb => ?_) (fun c89 hb => ?_)
   ·have X := And.intro c89 X
    refine Tw ?_
    refine vq_idxS hb (fun x90 hx90 hb => ?_)
    refine Tw ?_
    refine bnd1 hb (fun r91 h92 hb => ?_)
    refine pq_eq (G_burinref02_digit_ok h92) ?_
    refine Tw ?_
    refine bq_if hb rfl (fun c93 hb => ?_) (fun c93 hb => ?_)
    ·have X := And.intro c93 X
     refine Tw ?_
     refine vq_idxS hb (fun x94 hx94 hb => ?_)
     refine Tw ?_
     refine bq_if hb rfl (fun c95 hb => ?_) (fun c95 hb => ?_)
     ·have X := And.intro c95 X
      refine Tw ?_
      refine bq_if hb rfl (fun c96 hb => ?_) (fun c96 hb => ?_)
      ·have X := And.intro c96 X
       refine Tw ?_
       refine vq_idxS hb (fun x97 hx97 hb => ?_)
       refine Tw ?_
       refine bq_if hb rfl (fun c98 hb => ?_) (fun c98 hb => ?_)
       ·have hb := Option.some.inj hb
        subst hb
        have X := And.intro c98 X
        refine Tw ?_
        exact hn _  Cw ex0
       ·have X := And.intro c98 X
        refine Tw ?_
        refine vq_idxS hb (fun x99 hx99 hb => ?_)
        refine Tw ?_
        refine bq_if hb rfl (fun c100 hb => ?_) (fun c100 hb => ?_)
        ·have hb := Option.some.inj hb
         subst hb
         have hn : _ = _ := hn
         subst hn
         have X := And.intro c100 X
         refine Tw ?_
         exact ex0 _ n_41 rfl Cw
        ·have hb := Option.some.inj hb
         subst hb
         have X := And.intro c100 X
         refine Tw ?_
         exact hn _  Cw ex0
      ·have hb := Option.some.inj hb
       subst hb
       have hn : _ = _ := hn
       subst hn
       have X := And.intro c96 X
       refine Tw ?_
       exact ex0 _ n_41 rfl Cw
     ·have hb := Option.some.inj hb
      subst hb
      have X := And.intro c95 X
      refine Tw ?_
      exact hn _  Cw ex0
    ·have hb := Option.some.inj hb
     subst hb
     have X := And.intro c93 X
     refine Tw ?_
     exact hn _  Cw ex0
   ·have hb := Option.some.inj hb
    subst hb
    have X := And.intro c89 X
    refine Tw ?_
    exact hn _  Cw ex0
def G_burinref02_number (s_2 : Bytes) : Option (Int) :=
 (
  if (decide ((0 : Int) < ((List.length s_2 : Nat) : Int))) then
   idx s_2 (0 : Int) >>= fun x8 =>
   G_burinref02_digit (x8.toNat : Int) >>= fun r9 =>
   if r9 then
    some (1 : Int)
   else
    some (0 : Int)
  else
   some (0 : Int)
 ) >>= fun n_12 =>
 (
  if (decide ((1 : Int) < ((List.length s_2 : Nat) : Int))) then
   idx s_2 (0 : Int) >>= fun x25 =>
   if ((x25.toNat : Int) == (46 : Int)) then
    idx s_2 (1 : Int) >>= fun x27 =>
    G_burinref02_digit (x27.toNat : Int) >>= fun r28 =>
    if r28 then
     some (2 : Int)
    else
     some n_12
   else
    some n_12
  else
   some n_12
 ) >>= fun n_31 =>
 loopO (G_burinref02_number_L1 s_2) n_31 >>= fun n_101 =>
 some n_101
theorem G_burinref02_number_ok {s_2 : Bytes} {r3 : Int} (hx : G_burinref02_number s_2 = some r3) : PureE E 166 [(.str s_2)] (fun v => v = (.int .i64 r3)) := by
 refine pureE_ok fn_burinref02_number rfl ?_
 have hb := hx
 dsimp only [G_burinref02_number] at hb
 have X := True.intro
 refine Tw ?_
 refine bnd1 hb (fun j18 hj hb => ?_)
 refine wq_joinF (fun Z => ∀ (f13 : Fr) (n_12 : Int), n_12 = j18 → (f13 0 = (.str s_2) ∧ f13 3 = (.int .i64 n_12)) → Z f13) (fun Z hX6 => ?_) ?_
 ·have hr5 := hb
  clear hb
  have hb := hj
  clear hj
  refine wq_def J_burinref02_number_1.eq_1 ?_
  refine Tw ?_
  refine Tw ?_
  refine bq_if hb rfl (fun c7 hb => ?_) (fun c7 hb => ?_)
  ·have X := And.intro c7 X
   refine Tw ?_
   refine vq_idxS hb (fun x8 hx8 hb => ?_)
   refine Tw ?_
   refine bnd1 hb (fun r9 h10 hb => ?_)
   refine pq_eq (G_burinref02_digit_ok h10) ?_
   refine Tw ?_
   refine bq_if hb rfl (fun c11 hb => ?_) (fun c11 hb => ?_)
   ·have hb := Option.some.inj hb
    subst hb
    have X := And.intro c11 X
    refine Tw ?_
    exact hX6 _ (1 : Int) rfl Cw
   ·have hb := Option.some.inj hb
    subst hb
    have X := And.intro c11 X
    refine Tw ?_
    exact hX6 _ (0 : Int) rfl Cw
  ·have hb := Option.some.inj hb
   subst hb
   have X := And.intro c7 X
   refine Tw ?_
   exact hX6 _ (0 : Int) rfl Cw
 ·intro f13 n_12 ej Y15
  subst ej
  try dsimp only at hb
  have X := And.intro Y15 X
  refine Tw ?_
  refine bnd1 hb (fun j37 hj hb => ?_)
  refine wq_joinF (fun Z => ∀ (f32 : Fr) (n_31 : Int), n_31 = j37 → (f32 0 = (.str s_2) ∧ f32 3 = (.int .i64 n_31)) → Z f32) (fun Z hX23 => ?_) ?_
  ·have hr22 := hb
   clear hb
   have hb := hj
   clear hj
   refine wq_def J_burinref02_number_2.eq_1 ?_
   refine Tw ?_
   refine Tw ?_
   refine bq_if hb rfl (fun c24 hb => ?_) (fun c24 hb => ?_)
   ·have X := And.intro c24 X
    refine Tw ?_
    refine vq_idxS hb (fun x25 hx25 hb => ?_)
    refine Tw ?_
    refine bq_if hb rfl (fun c26 hb => ?_) (fun c26 hb => ?_)
    ·have X := And.intro c26 X
     refine Tw ?_
     refine vq_idxS hb (fun x27 hx27 hb => ?_)
     refine Tw ?_
     refine bnd1 hb (fun r28 h29 hb => ?_)
     refine pq_eq (G_burinref02_digit_ok h29) ?_
     refine Tw ?_
     refine bq_if hb rfl (fun c30 hb => ?_) (fun c30 hb => ?_)
     ·have hb := Option.some.inj hb
      subst hb
      have X := And.intro c30 X
      refine Tw ?_
      exact hX23 _ (2 : Int) rfl Cw
     ·have hb := Option.some.inj hb
      subst hb
      have X := And.intro c30 X
      refine Tw ?_
      exact hX23 _ n_12 rfl Cw
    ·have hb := Option.some.inj hb
     subst hb
     have X := And.intro c26 X
     refine Tw ?_
     exact hX23 _ n_12 rfl Cw
   ·have hb := Option.some.inj hb
    subst hb
    have X := And.intro c24 X
    refine Tw ?_
    exact hX23 _ n_12 rfl Cw
  ·intro f32 n_31 ej Y34
   subst ej
   try dsimp only at hb
   have X := And.intro Y34 X
   refine Tw ?_
   refine bnd1 hb (fun q107 h108 hb => ?_)
   refine G_burinref02_number_L1_ok _ _ h108 trivial trivial _ Cw ?_
   ·intro f102 n_101 ex Y104
    subst ex
    have hb := Option.some.inj hb
    subst hb
    have X := And.intro Y104 X
    refine Tw ?_
    exact endI rfl
def G_burinref02_quote_L1 (s_4 : Bytes) : Int → Option ((Int) ⊕ (Ex2 (Int) (Unit))) := fun i_5 =>
 if (decide (i_5 < ((List.length s_4 : Nat) : Int))) then
  idx s_4 i_5 >>= fun x16 =>
  if ((x16.toNat : Int) == (92 : Int)) then
   some (Sum.inl (IntKind.wrap .i64 ((IntKind.wrap .i64 (i_5 + (1 : Int))) + (1 : Int))))
  else
   idx s_4 i_5 >>= fun x18 =>
   idx s_4 (0 : Int) >>= fun x19 =>
   if ((x18.toNat : Int) == (x19.toNat : Int)) then
    some (Sum.inr (Ex2.a (IntKind.wrap .i64 (i_5 + (1 : Int)))))
   else
    some (Sum.inl (IntKind.wrap .i64 (i_5 + (1 : Int))))
 else
  some (Sum.inr (Ex2.b ()))
theorem G_burinref02_quote_L1_ok {κ : Kt} {t : Blk κ} {s_4 : Bytes} {h7 : Heap} (i_5 : Int) (x : Ex2 (Int) (Unit)) (hx : loopO (G_burinref02_quote_L1 s_4) i_5 = some x) (hh : True) (ho : True) : ∀ (f6 : Fr), (f6 0 = (.str s_4) ∧ f6 3 = (.int .i64 i_5)) → (∀ (f22 : Fr) (v21 : Int), Ex2.a v21 = x → (f22 2 = (.int .i64 v21)) → κ.R f22 h7) → (∀ (f27 : Fr), Ex2.b () = x → (True) → κ.B 0 f27 h7) → Lq E (.loop L_burinref02_quote_1) κ t f6 h7 := by
 revert i_5 x
 refine loop1' ?_
 intro i_5 r hb x hn f6  Y8  ex0 ex1
 dsimp only [G_burinref02_quote_L1] at hb
 refine loop_step L_burinref02_quote_1.eq_1 ?_
 have X := Y8
 refine Tw ?_
 refine Tw ?_
 refine bq_if hb rfl (fun c15 hb => ?_) (fun c15 hb => ?_)
 ·have X := And.intro c15 X
  refine Tw ?_
  refine vq_idxS hb (fun x16 hx16 hb => ?_)
  refine Tw ?_
  refine bq_if hb rfl (fun c17 hb => ?_) (fun c17 hb => ?_)
  ·have hb := Option.some.inj hb
   subst hb
   have X := And.intro c17 X
   refine Tw ?_
   exact hn _  Cw ex0 ex1
  ·have X := And.intro c17 X
   refine Tw ?_
   refine vq_idxS hb (fun x18 hx18 hb => ?_)
   refine Tw ?_
   refine vq_idxS hb (fun x19 hx19 hb => ?_)
   refine Tw ?_
   refine bq_if hb rfl (fun c20 hb => ?_) (fun c20 hb => ?_)
   ·have hb := Option.some.inj hb
    subst hb
    have hn : _ = _ := hn
    subst hn
    have X := And.intro c20 X
    refine Tw ?_
    exact ex0 _ (IntKind.wrap .i64 (i_5 + (1 : Int))) rfl Cw
   ·have hb := Option.some.inj hb
    subst hb
    have X := And.intro c20 X
    refine Tw ?_
    exact hn _  Cw ex0 ex1
 ·have hb := Option.some.inj hb
  subst hb
  have hn : _ = _ := hn
  subst hn
  have X := And.intro c15 X
  refine Tw ?_
  exact ex1 _ rfl trivial
def G_burinref02_quote (s_2 : Bytes) : Option (Int) :=
 loopO (G_burinref02_quote_L1 s_2) (1 : Int) >>= fun q32 => match q32 with
  | .a v21 =>
   some v21
  | .b _ =>
   some (0 : Int)
theorem G_burinref02_quote_ok {s_2 : Bytes} {r3 : Int} (hx : G_burinref02_quote s_2 = some r3) : PureE E 167 [(.str s_2)] (fun v => v = (.int .i64 r3)) := by
 refine pureE_ok fn_burinref02_quote rfl ?_
 have hb := hx
 dsimp only [G_burinref02_quote] at hb
 have X := True.intro
 refine Tw ?_
 refine bnd1 hb (fun q32 h33 hb => ?_)
 refine G_burinref02_quote_L1_ok _ _ h33 trivial trivial _ Cw ?_ ?_
 ·intro f22 v21 ex Y24
  subst ex
  try dsimp only at hb
  have hb := Option.some.inj hb
  subst hb
  have X := And.intro Y24 X
  refine Tw ?_
  exact endI rfl
 ·intro f27 ex Y29
  subst ex
  try dsimp only at hb
  have hb := Option.some.inj hb
  subst hb
  refine Tw ?_
  exact endI rfl
def G_burinref02_Punct_L1 (s_4 : Bytes) : Int × Int → Option ((Int × Int) ⊕ (Ex2 (Unit) (Unit))) := fun (from_5, i_6) =>
 if (decide (i_6 < (122 : Int))) then
  idx ([46, 46, 46, 32, 60, 60, 61, 32, 62, 62, 61, 32, 45, 62, 32, 43, 43, 32, 45, 45, 32, 60, 60, 32, 62, 62, 32, 60, 61, 32, 62, 61, 32, 61, 61, 32, 33, 61, 32, 38, 38, 32, 124, 124, 32, 42, 61, 32, 47, 61, 32, 37, 61, 32, 43, 61, 32, 45, 61, 32, 38, 61, 32, 94, 61, 32, 124, 61, 32, 35, 35, 32, 91, 32, 93, 32, 40, 32, 41, 32, 123, 32, 125, 32, 46, 32, 38, 32, 42, 32, 43, 32, 45, 32, 126, 32, 33, 32, 47, 32, 37, 32, 60, 32, 62, 32, 94, 32, 124, 32, 63, 32, 58, 32, 59, 32, 61, 32, 44, 32, 35, 32] : Bytes) i_6 >>= fun x18 =>
  if ((x18.toNat : Int) == (32 : Int)) then
   subB ([46, 46, 46, 32, 60, 60, 61, 32, 62, 62, 61, 32, 45, 62, 32, 43, 43, 32, 45, 45, 32, 60, 60, 32, 62, 62, 32, 60, 61, 32, 62, 61, 32, 61, 61, 32, 33, 61, 32, 38, 38, 32, 124, 124, 32, 42, 61, 32, 47, 61, 32, 37, 61, 32, 43, 61, 32, 45, 61, 32, 38, 61, 32, 94, 61, 32, 124, 61, 32, 35, 35, 32, 91, 32, 93, 32, 40, 32, 41, 32, 123, 32, 125, 32, 46, 32, 38, 32, 42, 32, 43, 32, 45, 32, 126, 32, 33, 32, 47, 32, 37, 32, 60, 32, 62, 32, 94, 32, 124, 32, 63, 32, 58, 32, 59, 32, 61, 32, 44, 32, 35, 32] : Bytes) from_5 i_6 >>= fun t20 =>
   if (t20 == s_4) then
    some (Sum.inr (Ex2.a ()))
   else
    some (Sum.inl ((IntKind.wrap .i64 (i_6 + (1 : Int))), (IntKind.wrap .i64 (i_6 + (1 : Int)))))
  else
   some (Sum.inl (from_5, (IntKind.wrap .i64 (i_6 + (1 : Int)))))
 else
  some (Sum.inr (Ex2.b ()))
theorem G_burinref02_Punct_L1_ok {κ : Kt} {t : Blk κ} {s_4 : Bytes} {h8 : Heap} (from_5 : Int) (i_6 : Int) (x : Ex2 (Unit) (Unit)) (hx : loopO (G_burinref02_Punct_L1 s_4) (from_5, i_6) = some x) (hh : True) (ho : True) : ∀ (f7 : Fr), (f7 0 = (.str s_4) ∧ f7 3 = (.int .i64 from_5) ∧ f7 4 = (.int .i64 i_6)) → (∀ (f22 : Fr), Ex2.a () = x → (f22 2 = (.bool true)) → κ.R f22 h8) → (∀ (f27 : Fr), Ex2.b () = x → (True) → κ.B 0 f27 h8) → Lq E (.loop L_burinref02_Punct_1) κ t f7 h8 := by
 revert from_5 i_6 x
 refine loop2' ?_
 intro from_5 i_6 r hb x hn f7  Y9  ex0 ex1
 dsimp only [G_burinref02_Punct_L1] at hb
 refine loop_step L_burinref02_Punct_1.eq_1 ?_
 have X := Y9
 refine Tw ?_
 refine Tw ?_
 refine bq_if hb rfl (fun c17 hb => ?_) (fun c17 hb => ?_)
 ·have X := And.intro c17 X
  refine Tw ?_
  refine vq_idxS hb (fun x18 hx18 hb => ?_)
  refine Tw ?_
  refine bq_if hb rfl (fun c19 hb => ?_) (fun c19 hb => ?_)
  ·have X := And.intro c19 X
   refine Tw ?_
   refine vq_subBs hb (fun t20 ht20 hb => ?_)
   refine Tw ?_
   refine bq_if hb rfl (fun c21 hb => ?_) (fun c21 hb => ?_)
   ·have hb := Option.some.inj hb
    subst hb
    have hn : _ = _ := hn
    subst hn
    have X := And.intro c21 X
    refine Tw ?_
    exact ex0 _ rfl Cw
   ·have hb := Option.some.inj hb
    subst hb
    have X := And.intro c21 X
    refine Tw ?_
    exact hn _  Cw ex0 ex1
  ·have hb := Option.some.inj hb
   subst hb
   have X := And.intro c19 X
   refine Tw ?_
   exact hn _  Cw ex0 ex1
 ·have hb := Option.some.inj hb
  subst hb
  have hn : _ = _ := hn
  subst hn
  have X := And.intro c17 X
  refine Tw ?_
  exact ex1 _ rfl trivial
def G_burinref02_Punct (s_2 : Bytes) : Option (Bool) :=
 loopO (G_burinref02_Punct_L1 s_2) ((0 : Int), (0 : Int)) >>= fun q32 => match q32 with
  | .a _ =>
   some true
  | .b _ =>
   some false
theorem G_burinref02_Punct_ok {s_2 : Bytes} {r3 : Bool} (hx : G_burinref02_Punct s_2 = some r3) : PureE E 188 [(.str s_2)] (fun v => v = (.bool r3)) := by
 refine pureE_ok fn_burinref02_Punct rfl ?_
 have hb := hx
 dsimp only [G_burinref02_Punct] at hb
 have X := True.intro
 refine Tw ?_
 refine bnd1 hb (fun q32 h33 hb => ?_)
 refine G_burinref02_Punct_L1_ok _ _ _ h33 trivial trivial _ Cw ?_ ?_
 ·intro f22 ex Y24
  subst ex
  try dsimp only at hb
  have hb := Option.some.inj hb
  subst hb
  have X := And.intro Y24 X
  refine Tw ?_
  exact endI rfl
 ·intro f27 ex Y29
  subst ex
  try dsimp only at hb
  have hb := Option.some.inj hb
  subst hb
  refine Tw ?_
  exact endI rfl
def G_burinref02_sign_L1 (s_4 : Bytes) : Int → Option ((Int) ⊕ (Ex2 (Int) (Unit))) := fun n_5 =>
 if (decide ((0 : Int) < n_5)) then
  subT s_4 n_5 >>= fun t16 =>
  G_burinref02_Punct t16 >>= fun r17 =>
  if r17 then
   some (Sum.inr (Ex2.a n_5))
  else
   some (Sum.inl (IntKind.wrap .i64 (n_5 - (1 : Int))))
 else
  some (Sum.inr (Ex2.b ()))
theorem G_burinref02_sign_L1_ok {κ : Kt} {t : Blk κ} {s_4 : Bytes} {h7 : Heap} (n_5 : Int) (x : Ex2 (Int) (Unit)) (hx : loopO (G_burinref02_sign_L1 s_4) n_5 = some x) (hh : True) (ho : True) : ∀ (f6 : Fr), (f6 0 = (.str s_4) ∧ f6 3 = (.int .i64 n_5)) → (∀ (f21 : Fr) (v20 : Int), Ex2.a v20 = x → (f21 2 = (.int .i64 v20)) → κ.R f21 h7) → (∀ (f26 : Fr), Ex2.b () = x → (True) → κ.B 0 f26 h7) → Lq E (.loop L_burinref02_sign_1) κ t f6 h7 := by
 revert n_5 x
 refine loop1' ?_
 intro n_5 r hb x hn f6  Y8  ex0 ex1
 dsimp only [G_burinref02_sign_L1] at hb
 refine loop_step L_burinref02_sign_1.eq_1 ?_
 have X := Y8
 refine Tw ?_
 refine Tw ?_
 refine bq_if hb rfl (fun c15 hb => ?_) (fun c15 hb => ?_)
 ·have X := And.intro c15 X
  refine Tw ?_
  refine vq_subTs hb (fun t16 ht16 hb => ?_)
  refine Tw ?_
  refine bnd1 hb (fun r17 h18 hb => ?_)
  refine pq_eq (G_burinref02_Punct_ok h18) ?_
  refine Tw ?_
  refine bq_if hb rfl (fun c19 hb => ?_) (fun c19 hb => ?_)
  ·have hb := Option.some.inj hb
   subst hb
   have hn : _ = _ := hn
   subst hn
   have X := And.intro c19 X
   refine Tw ?_
   exact ex0 _ n_5 rfl Cw
  ·have hb := Option.some.inj hb
   subst hb
   have X := And.intro c19 X
   refine Tw ?_
   exact hn _  Cw ex0 ex1
 ·have hb := Option.some.inj hb
  subst hb
  have hn : _ = _ := hn
  subst hn
  have X := And.intro c15 X
  refine Tw ?_
  exact ex1 _ rfl trivial
def G_burinref02_sign (s_2 : Bytes) : Option (Int) :=
 loopO (G_burinref02_sign_L1 s_2) (if ((List.length s_2 : Nat) : Int) < (3 : Int) then ((List.length s_2 : Nat) : Int) else (3 : Int)) >>= fun q31 => match q31 with
  | .a v20 =>
   some v20
  | .b _ =>
   some (0 : Int)
theorem G_burinref02_sign_ok {s_2 : Bytes} {r3 : Int} (hx : G_burinref02_sign s_2 = some r3) : PureE E 168 [(.str s_2)] (fun v => v = (.int .i64 r3)) := by
 refine pureE_ok fn_burinref02_sign rfl ?_
 have hb := hx
 dsimp only [G_burinref02_sign] at hb
 have X := True.intro
 refine Tw ?_
 refine bnd1 hb (fun q31 h32 hb => ?_)
 refine G_burinref02_sign_L1_ok _ _ h32 trivial trivial _ Cw ?_ ?_
 ·intro f21 v20 ex Y23
  subst ex
  try dsimp only at hb
  have hb := Option.some.inj hb
  subst hb
  have X := And.intro Y23 X
  refine Tw ?_
  exact endI rfl
 ·intro f26 ex Y28
  subst ex
  try dsimp only at hb
  have hb := Option.some.inj hb
  subst hb
  refine Tw ?_
  exact endI rfl
def G_burinref02_first (s_2 : Bytes) : Option (Int × Int) :=
 G_burinref02_name s_2 >>= fun r5 =>
 if (decide ((0 : Int) < r5)) then
  some ((1 : Int), r5)
 else
  G_burinref02_number s_2 >>= fun r8 =>
  if (decide ((0 : Int) < r8)) then
   some ((2 : Int), r8)
  else
   (
    (
     idx s_2 (0 : Int) >>= fun x17 =>
     if ((x17.toNat : Int) == (39 : Int)) then
      some true
     else
      idx s_2 (0 : Int) >>= fun x19 =>
      some ((x19.toNat : Int) == (34 : Int))
    ) >>= fun v20 =>
    if v20 then
     G_burinref02_quote s_2 >>= fun r30 =>
     idx s_2 (0 : Int) >>= fun x32 =>
     if ((x32.toNat : Int) == (34 : Int)) then
      some (Ex2.a ((4 : Int), r30))
     else
      if (r30 == (2 : Int)) then
       some (Ex2.a ((3 : Int), (0 : Int)))
      else
       some (Ex2.a ((3 : Int), r30))
    else
     some (Ex2.b ())
   ) >>= fun j43 => match j43 with
    | .a q => some q
    | .b () =>
     G_burinref02_sign s_2 >>= fun r45 =>
     if (decide ((0 : Int) < r45)) then
      some ((5 : Int), r45)
     else
      some ((6 : Int), (1 : Int))
theorem G_burinref02_first_ok {s_2 : Bytes} {r3 : Int} {r4 : Int} (hx : G_burinref02_first s_2 = some (r3, r4)) : PureE E 146 [(.str s_2)] (fun v => v = (.tuple [(.int .i64 r3), (.int .i64 r4)])) := by
 refine pureE_ok fn_burinref02_first rfl ?_
 have hb := hx
 dsimp only [G_burinref02_first] at hb
 have X := True.intro
 refine Tw ?_
 refine bnd1 hb (fun r5 h6 hb => ?_)
 refine pq_eq (G_burinref02_name_ok h6) ?_
 refine Tw ?_
 refine bq_if hb rfl (fun c7 hb => ?_) (fun c7 hb => ?_)
 ·have hb := Option.some.inj hb
  obtain ⟨e0, e1⟩ := Prod.mk.inj hb
  subst e0
  subst e1
  have X := And.intro c7 X
  refine Tw ?_
  exact endI rfl
 ·have X := And.intro c7 X
  refine Tw ?_
  refine bnd1 hb (fun r8 h9 hb => ?_)
  refine pq_eq (G_burinref02_number_ok h9) ?_
  refine Tw ?_
  refine bq_if hb rfl (fun c10 hb => ?_) (fun c10 hb => ?_)
  ·have hb := Option.some.inj hb
   obtain ⟨e0, e1⟩ := Prod.mk.inj hb
   subst e0
   subst e1
   have X := And.intro c10 X
   refine Tw ?_
   exact endI rfl
  ·have X := And.intro c10 X
   refine Tw ?_
   refine bnd1 hb (fun j43 hj hb => ?_)
   refine wq_joinF (fun Z => ∀ (f38 : Fr), Ex2.b () = j43 → (f38 0 = (.str s_2)) → Z f38) (fun Z hX13 => ?_) ?_
   ·have hr12 := hb
    clear hb
    have hb := hj
    clear hj
    refine wq_def J_burinref02_first_1.eq_1 ?_
    refine Tw ?_
    refine Tw ?_
    refine bnd1 hb (fun j26 hj hb => ?_)
    refine wq_joinF (fun Z => ∀ (f21 : Fr) (v20 : Bool), v20 = j26 → (f21 0 = (.str s_2) ∧ f21 22 = (.bool v20)) → Z f21) (fun Z hX16 => ?_) ?_
    ·have hr15 := hb
     clear hb
     have hb := hj
     clear hj
     refine wq_def J_burinref02_first_2.eq_1 ?_
     refine Tw ?_
     refine Tw ?_
     refine vq_idxS hb (fun x17 hx17 hb => ?_)
     refine Tw ?_
     refine bq_if hb rfl (fun c18 hb => ?_) (fun c18 hb => ?_)
     ·have hb := Option.some.inj hb
      subst hb
      have X := And.intro c18 X
      refine Tw ?_
      exact hX16 _ true rfl Cw
     ·have X := And.intro c18 X
      refine Tw ?_
      refine vq_idxS hb (fun x19 hx19 hb => ?_)
      have hb := Option.some.inj hb
      subst hb
      refine Tw ?_
      exact hX16 _ ((x19.toNat : Int) == (34 : Int)) rfl Cw
    ·intro f21 v20 ej Y23
     subst ej
     try dsimp only at hb
     have X := And.intro Y23 X
     refine Tw ?_
     refine bq_if hb rfl (fun c29 hb => ?_) (fun c29 hb => ?_)
     ·have X := And.intro c29 X
      refine Tw ?_
      refine bnd1 hb (fun r30 h31 hb => ?_)
      refine pq_eq (G_burinref02_quote_ok h31) ?_
      refine Tw ?_
      refine vq_idxS hb (fun x32 hx32 hb => ?_)
      refine Tw ?_
      refine bq_if hb rfl (fun c33 hb => ?_) (fun c33 hb => ?_)
      ·have hq := Option.some.inj hb
       subst hq
       try dsimp only at hr12
       have hb := hr12
       have hb := Option.some.inj hb
       obtain ⟨e0, e1⟩ := Prod.mk.inj hb
       subst e0
       subst e1
       have X := And.intro c33 X
       refine Tw ?_
       exact endI rfl
      ·have X := And.intro c33 X
       refine Tw ?_
       refine bq_if hb rfl (fun c35 hb => ?_) (fun c35 hb => ?_)
       ·have hq := Option.some.inj hb
        subst hq
        try dsimp only at hr12
        have hb := hr12
        have hb := Option.some.inj hb
        obtain ⟨e0, e1⟩ := Prod.mk.inj hb
        subst e0
        subst e1
        have X := And.intro c35 X
        refine Tw ?_
        exact endI rfl
       ·have hq := Option.some.inj hb
        subst hq
        try dsimp only at hr12
        have hb := hr12
        have hb := Option.some.inj hb
        obtain ⟨e0, e1⟩ := Prod.mk.inj hb
        subst e0
        subst e1
        have X := And.intro c35 X
        refine Tw ?_
        exact endI rfl
     ·have hb := Option.some.inj hb
      subst hb
      have X := And.intro c29 X
      refine Tw ?_
      exact hX13 _ rfl Cw
   ·intro f38 ej Y40
    subst ej
    try dsimp only at hb
    have X := And.intro Y40 X
    refine Tw ?_
    refine bnd1 hb (fun r45 h46 hb => ?_)
    refine pq_eq (G_burinref02_sign_ok h46) ?_
    refine Tw ?_
    refine bq_if hb rfl (fun c47 hb => ?_) (fun c47 hb => ?_)
    ·have hb := Option.some.inj hb
     obtain ⟨e0, e1⟩ := Prod.mk.inj hb
     subst e0
     subst e1
     have X := And.intro c47 X
     refine Tw ?_
     exact endI rfl
    ·have hb := Option.some.inj hb
     obtain ⟨e0, e1⟩ := Prod.mk.inj hb
     subst e0
     subst e1
     have X := And.intro c47 X
     refine Tw ?_
     exact endI rfl
def G_burinref02_Lex_L2 (s_70 : Bytes) (v88 : Int) : Int × List T_api_Tok × Bool × Bool × Bool × Int → Option ((Int × List T_api_Tok × Bool × Bool × Bool × Int) ⊕ (Ex2 (Int × List T_api_Tok × Bool × Bool × Int) (List T_api_Tok × Bool × Bool × Bool × Int))) := fun (i_71, v78, v83, v84, v85, v86) =>
 if (decide (i_71 < ((List.length s_70 : Nat) : Int))) then
  if v85 then
   if (decide ((IntKind.wrap .i64 (i_71 + (1 : Int))) < ((List.length s_70 : Nat) : Int))) then
    idx s_70 i_71 >>= fun x102 =>
    if ((x102.toNat : Int) == (42 : Int)) then
     idx s_70 (IntKind.wrap .i64 (i_71 + (1 : Int))) >>= fun x104 =>
     if ((x104.toNat : Int) == (47 : Int)) then
      some (Sum.inl ((IntKind.wrap .i64 ((IntKind.wrap .i64 (i_71 + (1 : Int))) + (1 : Int))), v78, true, v84, false, v86))
     else
      some (Sum.inl ((IntKind.wrap .i64 (i_71 + (1 : Int))), v78, true, v84, true, v86))
    else
     some (Sum.inl ((IntKind.wrap .i64 (i_71 + (1 : Int))), v78, true, v84, true, v86))
   else
    some (Sum.inl ((IntKind.wrap .i64 (i_71 + (1 : Int))), v78, true, v84, true, v86))
  else
   idx s_70 i_71 >>= fun x111 =>
   G_burinref02_blank (x111.toNat : Int) >>= fun r112 =>
   if r112 then
    some (Sum.inl ((IntKind.wrap .i64 (i_71 + (1 : Int))), v78, true, v84, false, v86))
   else
    (
     if (decide ((IntKind.wrap .i64 (i_71 + (1 : Int))) < ((List.length s_70 : Nat) : Int))) then
      idx s_70 i_71 >>= fun x120 =>
      if ((x120.toNat : Int) == (47 : Int)) then
       idx s_70 (IntKind.wrap .i64 (i_71 + (1 : Int))) >>= fun x122 =>
       if ((x122.toNat : Int) == (47 : Int)) then
        some (Ex2.a (Sum.inr (Ex2.a ((0 : Int), v78, v83, v84, v86))))
       else
        some (Ex2.b ())
      else
       some (Ex2.b ())
     else
      some (Ex2.b ())
    ) >>= fun j130 => match j130 with
     | .a q => some q
     | .b () =>
      (
       (
        if (decide ((IntKind.wrap .i64 (i_71 + (1 : Int))) < ((List.length s_70 : Nat) : Int))) then
         idx s_70 i_71 >>= fun x142 =>
         if ((x142.toNat : Int) == (47 : Int)) then
          idx s_70 (IntKind.wrap .i64 (i_71 + (1 : Int))) >>= fun x144 =>
          some ((x144.toNat : Int) == (42 : Int))
         else
          some false
        else
         some false
       ) >>= fun v145 =>
       if v145 then
        some (Ex2.a (Sum.inl ((IntKind.wrap .i64 (i_71 + (2 : Int))), v78, v83, v84, true, v88)))
       else
        some (Ex2.b ())
      ) >>= fun j166 => match j166 with
       | .a q => some q
       | .b () =>
        subF s_70 i_71 >>= fun t171 =>
        G_burinref02_first t171 >>= fun (r172, r173) =>
        if (r173 == (0 : Int)) then
         some (Sum.inr (Ex2.a ((21 : Int), v78, v83, v84, v86)))
        else
         if (decide ((20000 : Int) ≤ ((List.length v78 : Nat) : Int))) then
          some (Sum.inr (Ex2.a ((22 : Int), v78, v83, v84, v86)))
         else
          subB s_70 i_71 (IntKind.wrap .i64 (i_71 + r173)) >>= fun t177 =>
          app 56 v78 [(T_api_Tok.mk r172 t177 [] v88 v83 v84)] >>= fun t179 =>
          some (Sum.inl ((IntKind.wrap .i64 (i_71 + r173)), t179, false, false, false, v86))
 else
  some (Sum.inr (Ex2.b (v78, v83, v84, v85, v86)))
theorem G_burinref02_Lex_L2_ok {κ : Kt} {t : Blk κ} {s_70 : Bytes} {v88 : Int} {v89 : Bytes} {b77 : Nat} {b87 : Nat} (i_71 : Int) (v78 : List T_api_Tok) (v83 : Bool) (v84 : Bool) (v85 : Bool) (v86 : Int) (x : Ex2 (Int × List T_api_Tok × Bool × Bool × Int) (List T_api_Tok × Bool × Bool × Bool × Int)) (hx : loopO (G_burinref02_Lex_L2 s_70 v88) (i_71, v78, v83, v84, v85, v86) = some x) : ∀ (f72 : Fr) (h73 : Heap) (o79 : Own) (e80 : Nat) (M81 : List (List PV)), (f72 0 = (.ptr b77 0) ∧ f72 3 = (.ptr b87 0) ∧ f72 5 = (.str s_70) ∧ f72 6 = (.int .i64 i_71)) → (h73.box b77 = some [(.slice o79 e80 M81), (.bool v83), (.bool v84), (.bool v85), (.int .i64 v86)] ∧ h73.box b87 = some [(.int .i64 v88), (.str v89)] ∧ OwnOK h73 o79) → (b77 < b87 ∧ b87 < h73.n) → SlR 6 T_api_Tok.R o79 e80 v78 M81 → (∀ (f192 : Fr) (h193 : Heap) (v191 : Int) (v197 : List T_api_Tok) (v202 : Bool) (v203 : Bool) (v204 : Int) (o198 : Own) (e199 : Nat) (M200 : List (List PV)), Ex2.a (v191, v197, v202, v203, v204) = x → (f192 4 = (.int .i64 v191) ∧ h193.box b77 = some [(.slice o198 e199 M200), (.bool v202), (.bool v203), (.bool false), (.int .i64 v204)] ∧ h193.box b87 = some [(.int .i64 v88), (.str v89)] ∧ OwnOK h193 o198) → (b77 < b87 ∧ b87 < h193.n) → SlR 6 T_api_Tok.R o198 e199 v197 M200 → κ.R f192 h193) → (∀ (f206 : Fr) (h207 : Heap) (v211 : List T_api_Tok) (v216 : Bool) (v217 : Bool) (v218 : Bool) (v219 : Int) (o212 : Own) (e213 : Nat) (M214 : List (List PV)), Ex2.b (v211, v216, v217, v218, v219) = x → (h207.box b77 = some [(.slice o212 e213 M214), (.bool v216), (.bool v217), (.bool v218), (.int .i64 v219)] ∧ h207.box b87 = some [(.int .i64 v88), (.str v89)] ∧ OwnOK h207 o212) → (b77 < b87 ∧ b87 < h207.n) → SlR 6 T_api_Tok.R o212 e213 v211 M214 → κ.B 0 f206 h207) → Lq E (.loop L_burinref02_lexer_line_1) κ t f72 h73 := by
 revert i_71 v78 v83 v84 v85 v86 x
 refine loop6' ?_
 intro i_71 v78 v83 v84 v85 v86 r hb x hn f72 h73 o79 e80 M81 Y74 Y75 Y76 s82 ex0 ex1
 dsimp only [G_burinref02_Lex_L2] at hb
 refine loop_step L_burinref02_lexer_line_1.eq_1 ?_
 have X := And.intro Y74 (And.intro Y75 (s82.len))
 refine Tw ?_
 refine Tw ?_
 refine bq_if hb rfl (fun c99 hb => ?_) (fun c99 hb => ?_)
 ·have X := And.intro c99 X
  refine Tw ?_
  refine bq_if hb rfl (fun c100 hb => ?_) (fun c100 hb => ?_)
  ·have X := And.intro c100 X
   refine Tw ?_
   refine bq_if hb rfl (fun c101 hb => ?_) (fun c101 hb => ?_)
   ·have X := And.intro c101 X
    refine Tw ?_
    refine vq_idxS hb (fun x102 hx102 hb => ?_)
    refine Tw ?_
    refine bq_if hb rfl (fun c103 hb => ?_) (fun c103 hb => ?_)
    ·have X := And.intro c103 X
     refine Tw ?_
     refine vq_idxS hb (fun x104 hx104 hb => ?_)
     refine Tw ?_
     refine bq_if hb rfl (fun c105 hb => ?_) (fun c105 hb => ?_)
     ·have hb := Option.some.inj hb
      subst hb
      have X := And.intro c105 X
      refine Tw ?_
      exact hn _ _ o79 e80 M81 Cw Cw Cn s82 ex0 ex1
     ·have hb := Option.some.inj hb
      subst hb
      have X := And.intro c105 X
      refine Tw ?_
      exact hn _ _ o79 e80 M81 Cw Cw Cn s82 ex0 ex1
    ·have hb := Option.some.inj hb
     subst hb
     have X := And.intro c103 X
     refine Tw ?_
     exact hn _ _ o79 e80 M81 Cw Cw Cn s82 ex0 ex1
   ·have hb := Option.some.inj hb
    subst hb
    have X := And.intro c101 X
    refine Tw ?_
    exact hn _ _ o79 e80 M81 Cw Cw Cn s82 ex0 ex1
  ·have X := And.intro c100 X
   refine Tw ?_
   refine vq_idxS hb (fun x111 hx111 hb => ?_)
   refine Tw ?_
   refine bnd1 hb (fun r112 h113 hb => ?_)
   refine pq_eq (G_burinref02_blank_ok h113) ?_
   refine Tw ?_
   refine bq_if hb rfl (fun c114 hb => ?_) (fun c114 hb => ?_)
   ·have hb := Option.some.inj hb
    subst hb
    have X := And.intro c114 X
    refine Tw ?_
    exact hn _ _ o79 e80 M81 Cw Cw Cn s82 ex0 ex1
   ·have X := And.intro c114 X
    refine Tw ?_
    refine bnd1 hb (fun j130 hj hb => ?_)
    refine wq_joinF (fun Z => ∀ (f125 : Fr), Ex2.b () = j130 → (f125 0 = (.ptr b77 0) ∧ f125 3 = (.ptr b87 0) ∧ f125 5 = (.str s_70) ∧ f125 6 = (.int .i64 i_71)) → Z f125) (fun Z hX118 => ?_) ?_
    ·have hr117 := hb
     clear hb
     have hb := hj
     clear hj
     refine wq_def J_burinref02_lexer_line_2.eq_1 ?_
     refine Tw ?_
     refine Tw ?_
     refine bq_if hb rfl (fun c119 hb => ?_) (fun c119 hb => ?_)
     ·have X := And.intro c119 X
      refine Tw ?_
      refine vq_idxS hb (fun x120 hx120 hb => ?_)
      refine Tw ?_
      refine bq_if hb rfl (fun c121 hb => ?_) (fun c121 hb => ?_)
      ·have X := And.intro c121 X
       refine Tw ?_
       refine vq_idxS hb (fun x122 hx122 hb => ?_)
       refine Tw ?_
       refine bq_if hb rfl (fun c123 hb => ?_) (fun c123 hb => ?_)
       ·have hq := Option.some.inj hb
        subst hq
        try dsimp only at hr117
        have hb := hr117
        have hb := Option.some.inj hb
        subst hb
        have hn : _ = _ := hn
        subst hn
        have X := And.intro c123 X
        refine Tw ?_
        exact ex0 _ _ (0 : Int) v78 v83 v84 v86 o79 e80 M81 rfl Cw Cn s82
       ·have hb := Option.some.inj hb
        subst hb
        have X := And.intro c123 X
        refine Tw ?_
        exact hX118 _ rfl Cw
      ·have hb := Option.some.inj hb
       subst hb
       have X := And.intro c121 X
       refine Tw ?_
       exact hX118 _ rfl Cw
     ·have hb := Option.some.inj hb
      subst hb
      have X := And.intro c119 X
      refine Tw ?_
      exact hX118 _ rfl Cw
    ·intro f125 ej Y127
     subst ej
     try dsimp only at hb
     have X := And.intro Y127 X
     refine Tw ?_
     refine bnd1 hb (fun j166 hj hb => ?_)
     refine wq_joinF (fun Z => ∀ (f161 : Fr), Ex2.b () = j166 → (f161 0 = (.ptr b77 0) ∧ f161 3 = (.ptr b87 0) ∧ f161 5 = (.str s_70) ∧ f161 6 = (.int .i64 i_71)) → Z f161) (fun Z hX137 => ?_) ?_
     ·have hr136 := hb
      clear hb
      have hb := hj
      clear hj
      refine wq_def J_burinref02_lexer_line_3.eq_1 ?_
      refine Tw ?_
      refine Tw ?_
      refine bnd1 hb (fun j151 hj hb => ?_)
      refine wq_joinF (fun Z => ∀ (f146 : Fr) (v145 : Bool), v145 = j151 → (f146 0 = (.ptr b77 0) ∧ f146 3 = (.ptr b87 0) ∧ f146 5 = (.str s_70) ∧ f146 6 = (.int .i64 i_71) ∧ f146 102 = (.bool v145)) → Z f146) (fun Z hX140 => ?_) ?_
      ·have hr139 := hb
       clear hb
       have hb := hj
       clear hj
       refine wq_def J_burinref02_lexer_line_4.eq_1 ?_
       refine Tw ?_
       refine Tw ?_
       refine bq_if hb rfl (fun c141 hb => ?_) (fun c141 hb => ?_)
       ·have X := And.intro c141 X
        refine Tw ?_
        refine vq_idxS hb (fun x142 hx142 hb => ?_)
        refine Tw ?_
        refine bq_if hb rfl (fun c143 hb => ?_) (fun c143 hb => ?_)
        ·have X := And.intro c143 X
         refine Tw ?_
         refine vq_idxS hb (fun x144 hx144 hb => ?_)
         have hb := Option.some.inj hb
         subst hb
         refine Tw ?_
         exact hX140 _ ((x144.toNat : Int) == (42 : Int)) rfl Cw
        ·have hb := Option.some.inj hb
         subst hb
         have X := And.intro c143 X
         refine Tw ?_
         exact hX140 _ false rfl Cw
       ·have hb := Option.some.inj hb
        subst hb
        have X := And.intro c141 X
        refine Tw ?_
        exact hX140 _ false rfl Cw
      ·intro f146 v145 ej Y148
       subst ej
       try dsimp only at hb
       have X := And.intro Y148 X
       refine Tw ?_
       refine bq_if hb rfl (fun c157 hb => ?_) (fun c157 hb => ?_)
       ·have hq := Option.some.inj hb
        subst hq
        try dsimp only at hr136
        have hb := hr136
        have hb := Option.some.inj hb
        subst hb
        have X := And.intro c157 X
        refine Tw ?_
        exact hn _ _ o79 e80 M81 Cw Cw Cn s82 ex0 ex1
       ·have hb := Option.some.inj hb
        subst hb
        have X := And.intro c157 X
        refine Tw ?_
        exact hX137 _ rfl Cw
     ·intro f161 ej Y163
      subst ej
      try dsimp only at hb
      have X := And.intro Y163 X
      refine Tw ?_
      refine vq_subFs hb (fun t171 ht171 hb => ?_)
      refine Tw ?_
      refine bnd2 hb (fun r172 r173 h174 hb => ?_)
      try dsimp only at hb
      refine pq_eq (G_burinref02_first_ok h174) ?_
      refine Tw ?_
      refine bq_if hb rfl (fun c175 hb => ?_) (fun c175 hb => ?_)
      ·have hb := Option.some.inj hb
       subst hb
       have hn : _ = _ := hn
       subst hn
       have X := And.intro c175 X
       refine Tw ?_
       exact ex0 _ _ (21 : Int) v78 v83 v84 v86 o79 e80 M81 rfl Cw Cn s82
      ·have X := And.intro c175 X
       refine Tw ?_
       refine bq_if hb rfl (fun c176 hb => ?_) (fun c176 hb => ?_)
       ·have hb := Option.some.inj hb
        subst hb
        have hn : _ = _ := hn
        subst hn
        have X := And.intro c176 X
        refine Tw ?_
        exact ex0 _ _ (22 : Int) v78 v83 v84 v86 o79 e80 M81 rfl Cw Cn s82
       ·have X := And.intro c176 X
        refine Tw ?_
        refine vq_subBs hb (fun t177 ht177 hb => ?_)
        refine Tw ?_
        refine vq_bsl rfl ?_
        refine Tw ?_
        refine vq_app s82 Cw (show SlR 6 T_api_Tok.R (.own h73.n false) 6 ([(T_api_Tok.mk r172 t177 [] v88 v83 v84)] : List T_api_Tok) [[(.int .i64 r172), (.str t177), (.str []), (.int .i64 v88), (.bool v83), (.bool v84)]] from (slr_cons (by simp) rfl (slr_0 (R := T_api_Tok.R)))) hb (fun t179 o180 M181 h182 ht179 hb s183 O184 F185 => ?_)
        have q186 := F185.n
        try simp only [HN] at q186
        have hb := Option.some.inj hb
        subst hb
        have X := And.intro F185.box (And.intro F185.loop (And.intro F185.bty (And.intro O184 (And.intro s183.len X))))
        refine Tw ?_
        exact hn _ _ o180 6 M181 Cw Cw Cn s183 ex0 ex1
 ·have hb := Option.some.inj hb
  subst hb
  have hn : _ = _ := hn
  subst hn
  have X := And.intro c99 X
  refine Tw ?_
  exact ex1 _ _ v78 v83 v84 v85 v86 o79 e80 M81 rfl Cw Cn s82
end Go.Proofs.YtmngkcpobmhnoaaGreatDoor.Sim
