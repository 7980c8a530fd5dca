/- Printed functions, continued. -/
import Derived.Test.YtmngkcpobmhnoaaGreatDoorKG3
set_option linter.all false
set_option maxHeartbeats 4000000
set_option maxRecDepth 20000
namespace Go.Proofs.YtmngkcpobmhnoaaGreatDoor.Sim
def G_lex_Words_L1  : List T_api_Word × List T_api_Tok → Option ((List T_api_Word × List T_api_Tok) ⊕ (Ex2 (List T_api_Word × Bytes × Int × List T_api_Tok) (List T_api_Word × List T_api_Tok))) := fun (v35, v45) =>
 if (decide ((0 : Int) < ((List.length v45 : Nat) : Int))) then
  idx v45 (0 : Int) >>= fun x64 =>
  if (!(x64.Kind_ == (4 : Int))) then
   subF v45 (1 : Int) >>= fun t70 =>
   G_lex_wordOf x64 >>= fun (r75, r76) =>
   if (!r76) then
    some (Sum.inr (Ex2.a (v35, x64.File_, x64.Line_, t70)))
   else
    app 64 v35 [r75] >>= fun t92 =>
    some (Sum.inl (t92, t70))
  else
   loopO (G_lex_Words_L2) (v45, ([] : Bytes)) >>= fun q227 => match q227 with
    | .a (v206, v211) =>
     if (decide ((4096 : Int) < ((List.length v211 : Nat) : Int))) then
      some (Sum.inr (Ex2.a (v35, x64.File_, x64.Line_, v206)))
     else
      app 64 v35 [(T_api_Word.mk (4 : Int) v211 (0 : Int) (0 : Int) x64.File_ x64.Line_)] >>= fun t250 =>
      some (Sum.inl (t250, v206))
    | .b (v218, v219, v220, v225) =>
     some (Sum.inr (Ex2.a (v35, v218, v219, v220)))
 else
  some (Sum.inr (Ex2.b (v35, v45)))
theorem G_lex_Words_L1_ok {κ : Kt} {t : Blk κ} {v41 : Bool} {v42 : Bytes} {v43 : Int} {b34 : Nat} {b40 : Nat} {b44 : Nat} {l50 : Nat} {g51 : Fr} (v35 : List T_api_Word) (v45 : List T_api_Tok) (x : Ex2 (List T_api_Word × Bytes × Int × List T_api_Tok) (List T_api_Word × List T_api_Tok)) (hx : loopO (G_lex_Words_L1) (v35, v45) = some x) : ∀ (f29 : Fr) (h30 : Heap) (o36 : Own) (e37 : Nat) (M38 : List (List PV)) (o46 : Own) (e47 : Nat) (M48 : List (List PV)), (f29 0 = (.yield l50) ∧ f29 1 = (.ptr b44 0)) → (h30.box b34 = some [(.slice o36 e37 M38)] ∧ h30.box b40 = some [(.bool v41), (.str v42), (.int .i64 v43)] ∧ h30.box b44 = some [(.slice o46 e47 M48)] ∧ h30.loop l50 = some ⟨.ready, none, g51, [12, 13], A_lex_Words_1, Y_lex_Words_1⟩ ∧ g51 6 = (.ptr b34 0) ∧ g51 7 = (.ptr b40 0) ∧ OwnOK h30 o36) → (b34 < b40 ∧ b40 < b44 ∧ b44 < l50 ∧ l50 < h30.n) → SlR 6 T_api_Word.R o36 e37 v35 M38 → SlR 6 T_api_Tok.R o46 e47 v45 M48 → (∀ (f269 : Fr) (h270 : Heap) (v274 : List T_api_Word) (v279 : Bytes) (v280 : Int) (v281 : List T_api_Tok) (o275 : Own) (e276 : Nat) (M277 : List (List PV)) (o282 : Own) (e283 : Nat) (M284 : List (List PV)), Ex2.a (v274, v279, v280, v281) = x → (h270.box b34 = some [(.slice o275 e276 M277)] ∧ h270.box b40 = some [(.bool true), (.str v279), (.int .i64 v280)] ∧ h270.box b44 = some [(.slice o282 e283 M284)] ∧ h270.loop l50 = some ⟨.done, (some (.exit 0)), g51, [12, 13], A_lex_Words_1, Y_lex_Words_1⟩ ∧ OwnOK h270 o275) → (b34 < b40 ∧ b40 < b44 ∧ b44 < l50 ∧ l50 < h270.n) → SlR 6 T_api_Word.R o275 e276 v274 M277 → SlR 6 T_api_Tok.R o282 e283 v281 M284 → κ.R f269 h270) → (∀ (f287 : Fr) (h288 : Heap) (v292 : List T_api_Word) (v297 : List T_api_Tok) (o293 : Own) (e294 : Nat) (M295 : List (List PV)) (o298 : Own) (e299 : Nat) (M300 : List (List PV)), Ex2.b (v292, v297) = x → (h288.box b34 = some [(.slice o293 e294 M295)] ∧ h288.box b40 = some [(.bool v41), (.str v42), (.int .i64 v43)] ∧ h288.box b44 = some [(.slice o298 e299 M300)] ∧ h288.loop l50 = some ⟨.ready, none, g51, [12, 13], A_lex_Words_1, Y_lex_Words_1⟩ ∧ OwnOK h288 o293) → (b34 < b40 ∧ b40 < b44 ∧ b44 < l50 ∧ l50 < h288.n) → SlR 6 T_api_Word.R o293 e294 v292 M295 → SlR 6 T_api_Tok.R o298 e299 v297 M300 → κ.B 0 f287 h288) → Lq E (.loop L_lex_words_1_1) κ t f29 h30 := by
 revert v35 v45 x
 refine loop2' ?_
 intro v35 v45 r hb x hn f29 h30 o36 e37 M38 o46 e47 M48 Y31 Y32 Y33 s39 s49 ex0 ex1
 dsimp only [G_lex_Words_L1] at hb
 refine loop_step L_lex_words_1_1.eq_1 ?_
 have X := And.intro Y31 (And.intro Y32 (And.intro s39.len (s49.len)))
 refine Tw ?_
 refine Tw ?_
 refine bq_if hb rfl (fun c63 hb => ?_) (fun c63 hb => ?_)
 ·have X := And.intro c63 X
  refine Tw ?_
  refine vq_iaddr s49 hb (fun x64 cs65 hx64 hb hcs65 => ?_)
  cases (show cs65 = [(.int .i64 x64.Kind_), (.str x64.S_), (.str x64.File_), (.int .i64 x64.Line_), (.bool x64.Space_), (.bool x64.First_)] from hcs65)
  refine Tw ?_
  refine bq_if hb rfl (fun c69 hb => ?_) (fun c69 hb => ?_)
  ·have X := And.intro c69 X
   refine Tw ?_
   refine vq_subF s49 hb (fun t70 o71 M72 ht70 hb s73 => ?_)
   have X := And.intro s73.len X
   refine Tw ?_
   refine bnd2 hb (fun r75 r76 h77 hb => ?_)
   try dsimp only at hb
   refine pq_eq (G_lex_wordOf_ok h77) ?_
   refine Tw ?_
   refine fq_yield (tm := g51) (ps := [12, 13]) (as := A_lex_Words_1) (bd := Y_lex_Words_1) Cw (by rfl) ?_
   refine wq_def A_lex_Words_1.eq_1 ?_
   refine Tw ?_
   refine Tw ?_
   refine wq_def Y_lex_Words_1.eq_1 ?_
   refine Tw ?_
   refine Tw ?_
   refine bq_if hb rfl (fun c88 hb => ?_) (fun c88 hb => ?_)
   ·have X := And.intro c88 X
    refine Tw ?_
    have hb := Option.some.inj hb
    subst hb
    have hn : _ = _ := hn
    subst hn
    refine Tw ?_
    exact ex0 _ _ v35 x64.File_ x64.Line_ t70 o36 e37 M38 o71 e47 M72 rfl Cw Cn s39 s73
   ·have X := And.intro c88 X
    refine Tw ?_
    refine vq_bsl rfl ?_
    refine Tw ?_
    refine vq_app s39 Cw (show SlR 6 T_api_Word.R (.own (h30.n + 1 + 1 + 1 + 1) false) 6 ([r75] : List T_api_Word) [[(.int .i64 r75.Kind_), (.str r75.S_), (.int .i64 r75.V_), (.int .i64 r75.T_), (.str r75.File_), (.int .i64 r75.Line_)]] from (slr_cons (by simp) rfl (slr_0 (R := T_api_Word.R)))) hb (fun t92 o93 M94 h95 ht92 hb s96 O97 F98 => ?_)
    have q99 := F98.n
    try simp only [HN] at q99
    have X := And.intro F98.box (And.intro F98.loop (And.intro F98.bty (And.intro O97 (And.intro s96.len X))))
    refine Tw ?_
    have hb := Option.some.inj hb
    subst hb
    refine Tw ?_
    exact hn _ _ o93 6 M94 o71 e47 M72 Cw Cw Cn s96 s73 ex0 ex1
  ·have X := And.intro c69 X
   refine Tw ?_
   refine bnd1 hb (fun q227 h228 hb => ?_)
   refine G_lex_Words_L2_ok (v112 := v35) (o113 := o36) (e114 := e37) (M115 := M38) (v118 := v41) (v119 := v42) (v120 := v43) (v128 := x64.Kind_) (v129 := x64.S_) (v130 := x64.File_) (v131 := x64.Line_) (v132 := x64.Space_) (v133 := x64.First_) (v135 := (4 : Int)) (v137 := (0 : Int)) (v138 := (0 : Int)) (v139 := x64.File_) (v140 := x64.Line_) (b111 := b34) (b117 := b40) (b121 := b44) (b127 := h30.n) (b134 := (h30.n + 1)) (l141 := l50) (g142 := g51) _ _ _ h228 s39 _ _ o46 e47 M48 Cw Cw Cn s49 ?_ ?_
   ·intro f201 h202 v206 v211 o207 e208 M209 ex Y203 Y205 s210
    subst ex
    try dsimp only at hb
    have X := And.intro Y203 (And.intro s210.len X)
    refine Tw ?_
    refine fq_yield (tm := g51) (ps := [12, 13]) (as := A_lex_Words_1) (bd := Y_lex_Words_1) Cw (by rfl) ?_
    refine wq_def A_lex_Words_1.eq_1 ?_
    refine Tw ?_
    refine Tw ?_
    refine wq_def Y_lex_Words_1.eq_1 ?_
    refine Tw ?_
    refine Tw ?_
    refine bq_if hb rfl (fun c246 hb => ?_) (fun c246 hb => ?_)
    ·have X := And.intro c246 X
     refine Tw ?_
     have hb := Option.some.inj hb
     subst hb
     have hn : _ = _ := hn
     subst hn
     refine Tw ?_
     exact ex0 _ _ v35 x64.File_ x64.Line_ v206 o36 e37 M38 o207 e208 M209 rfl Cw Cn s39 s210
    ·have X := And.intro c246 X
     refine Tw ?_
     refine vq_bsl rfl ?_
     refine Tw ?_
     refine vq_app s39 Cw (show SlR 6 T_api_Word.R (.own (h202.n + 1 + 1) false) 6 ([(T_api_Word.mk (4 : Int) v211 (0 : Int) (0 : Int) x64.File_ x64.Line_)] : List T_api_Word) [[(.int .i64 (4 : Int)), (.str v211), (.int .i64 (0 : Int)), (.int .i64 (0 : Int)), (.str x64.File_), (.int .i64 x64.Line_)]] from (slr_cons (by simp) rfl (slr_0 (R := T_api_Word.R)))) hb (fun t250 o251 M252 h253 ht250 hb s254 O255 F256 => ?_)
     have q257 := F256.n
     try simp only [HN] at q257
     have X := And.intro F256.box (And.intro F256.loop (And.intro F256.bty (And.intro O255 (And.intro s254.len X))))
     refine Tw ?_
     have hb := Option.some.inj hb
     subst hb
     refine Tw ?_
     exact hn _ _ o251 6 M252 o207 e208 M209 Cw Cw Cn s254 s210 ex0 ex1
   ·intro f213 h214 v218 v219 v220 v225 o221 e222 M223 ex Y215 Y217 s224
    subst ex
    try dsimp only at hb
    have hb := Option.some.inj hb
    subst hb
    have hn : _ = _ := hn
    subst hn
    have X := And.intro Y215 (And.intro s224.len X)
    refine Tw ?_
    exact ex0 _ _ v35 v218 v219 v220 o36 e37 M38 o221 e222 M223 rfl Cw Cn s39 s224
 ·have hb := Option.some.inj hb
  subst hb
  have hn : _ = _ := hn
  subst hn
  have X := And.intro c63 X
  refine Tw ?_
  exact ex1 _ _ v35 v45 o36 e37 M38 o46 e47 M48 rfl Cw Cn s39 s49
def G_lex_Words (l_2 : List T_api_Tok) : Option (List T_api_Word × Int × Bytes × Int) :=
 (
  loopO (G_lex_Words_L1) (([] : List T_api_Word), l_2) >>= fun q303 => match q303 with
   | .a (v274, v279, v280, v281) =>
    some (v274, true, v279, v280)
   | .b (v292, v297) =>
    some (v292, false, [], (0 : Int))
 ) >>= fun (v324, v329, v330, v331) =>
 if v329 then
  some (([] : List T_api_Word), (70 : Int), v330, v331)
 else
  some (v324, (0 : Int), ([] : Bytes), (0 : Int))
theorem G_lex_Words_ok {l_2 : List T_api_Tok} {o3 : Own} {e4 : Nat} {M5 : List (List PV)} {r7 : List T_api_Word} {r8 : Int} {r9 : Bytes} {r10 : Int} (hx : G_lex_Words l_2 = some (r7, r8, r9, r10)) (s6 : SlR 6 T_api_Tok.R o3 e4 l_2 M5) : PureE E 15 [(.slice o3 e4 M5)] (fun v => ∃ o11 e12 M13, v = (.tuple [(.slice o11 e12 M13), (.int .i64 r8), (.str r9), (.int .i64 r10)]) ∧ SlR 6 T_api_Word.R o11 e12 r7 M13) := by
 refine pureE_ok fn_lex_Words rfl ?_
 have hb := hx
 dsimp only [G_lex_Words] at hb
 have X := s6.len
 refine Tw ?_
 refine bnd1 hb (fun j333 hj hb => ?_)
 refine wq_join (fun Z => ∀ (f319 : Fr) (h320 : Heap) (v324 : List T_api_Word) (v329 : Bool) (v330 : Bytes) (v331 : Int) (o325 : Own) (e326 : Nat) (M327 : List (List PV)), (v324, v329, v330, v331) = j333 → (f319 6 = (.ptr 0 0) ∧ f319 7 = (.ptr 1 0) ∧ h320.box 0 = some [(.slice o325 e326 M327)] ∧ h320.box 1 = some [(.bool v329), (.str v330), (.int .i64 v331)] ∧ OwnOK h320 o325) → (0 < 1 ∧ 1 < h320.n) → SlR 6 T_api_Word.R o325 e326 v324 M327 → Z f319 h320) (fun Z hX21 => ?_) ?_
 ·have hr20 := hb
  clear hb
  have hb := hj
  clear hj
  refine wq_def J_lex_Words_1.eq_1 ?_
  refine Tw ?_
  refine Tw ?_
  refine fq_in fn_lex_words (by rfl) ?_
  refine Tw ?_
  refine Tw ?_
  refine lq_range (E := E) (k := 54) (first := []) (cap := [(.ptr 2 0)]) fn_lex_words_1 Cw (by rfl) (fun g25 eg25 => ?_)
  have qg25 : g25 6 = (.ptr 0 0) ∧ g25 7 = (.ptr 1 0) := by rw [eg25]; exact Cw
  have X := And.intro qg25 X
  refine Tw ?_
  refine bnd1 hb (fun q303 h304 hb => ?_)
  refine G_lex_Words_L1_ok (v41 := false) (v42 := []) (v43 := (0 : Int)) (b34 := 0) (b40 := 1) (b44 := 2) (l50 := 3) (g51 := g25) _ _ _ h304 _ _ .nil 0 [] o3 e4 M5 Cw Cw Cn slr_nil s6 ?_ ?_
  ·intro f269 h270 v274 v279 v280 v281 o275 e276 M277 o282 e283 M284 ex Y271 Y273 s278 s285
   subst ex
   try dsimp only at hb
   have X := And.intro Y271 (And.intro s278.len (And.intro s285.len X))
   refine Tw ?_
   have hb := Option.some.inj hb
   subst hb
   refine Tw ?_
   exact hX21 _ _ v274 true v279 v280 o275 e276 M277 rfl Cw Cn s278
  ·intro f287 h288 v292 v297 o293 e294 M295 o298 e299 M300 ex Y289 Y291 s296 s301
   subst ex
   try dsimp only at hb
   have X := And.intro Y289 (And.intro s296.len (And.intro s301.len X))
   refine Tw ?_
   have hb := Option.some.inj hb
   subst hb
   refine Tw ?_
   exact hX21 _ _ v292 false [] (0 : Int) o293 e294 M295 rfl Cw Cn s296
 ·intro f319 h320 v324 v329 v330 v331 o325 e326 M327 ej Y321 Y323 s328
  subst ej
  try dsimp only at hb
  have X := And.intro Y321 (And.intro s328.len X)
  refine Tw ?_
  refine bq_if hb rfl (fun c339 hb => ?_) (fun c339 hb => ?_)
  ·have hb := Option.some.inj hb
   obtain ⟨e0, hb⟩ := Prod.mk.inj hb
   obtain ⟨e1, hb⟩ := Prod.mk.inj hb
   obtain ⟨e2, e3⟩ := Prod.mk.inj hb
   subst e0
   subst e1
   subst e2
   subst e3
   have X := And.intro c339 X
   refine Tw ?_
   exact endI ⟨.nil, 0, [], rfl, (slr_nil (R := T_api_Word.R)).st⟩
  ·have hb := Option.some.inj hb
   obtain ⟨e0, hb⟩ := Prod.mk.inj hb
   obtain ⟨e1, hb⟩ := Prod.mk.inj hb
   obtain ⟨e2, e3⟩ := Prod.mk.inj hb
   subst e0
   subst e1
   subst e2
   subst e3
   have X := And.intro c339 X
   refine Tw ?_
   exact endI ⟨(stO o325), e326, M327, rfl, s328.st⟩
def G_lex_lies (v_2 : Int) (kind_3 : Int) : Option (Bool) :=
 if (kind_3 == (5 : Int)) then
  if (decide ((-128 : Int) ≤ v_2)) then
   some (decide (v_2 < (2147483648 : Int)))
  else
   some false
 else
  if (kind_3 == (6 : Int)) then
   shr .i64 v_2 (32 : Int) >>= fun i8 =>
   some (i8 == (0 : Int))
  else
   if (kind_3 == (7 : Int)) then
    some (decide ((0 : Int) ≤ v_2))
   else
    some (kind_3 == (8 : Int))
theorem G_lex_lies_ok {v_2 : Int} {kind_3 : Int} {r4 : Bool} (hx : G_lex_lies v_2 kind_3 = some r4) : PureE E 46 [(.int .i64 v_2), (.int .i64 kind_3)] (fun v => v = (.bool r4)) := by
 refine pureE_ok fn_lex_lies rfl ?_
 have hb := hx
 dsimp only [G_lex_lies] at hb
 have X := True.intro
 refine Tw ?_
 refine bq_if hb rfl (fun c5 hb => ?_) (fun c5 hb => ?_)
 ·have X := And.intro c5 X
  refine Tw ?_
  refine bq_if hb rfl (fun c6 hb => ?_) (fun c6 hb => ?_)
  ·have hb := Option.some.inj hb
   subst hb
   have X := And.intro c6 X
   refine Tw ?_
   exact endI rfl
  ·have hb := Option.some.inj hb
   subst hb
   have X := And.intro c6 X
   refine Tw ?_
   exact endI rfl
 ·have X := And.intro c5 X
  refine Tw ?_
  refine bq_if hb rfl (fun c7 hb => ?_) (fun c7 hb => ?_)
  ·have X := And.intro c7 X
   refine Tw ?_
   refine vq_shr hb (fun i8 hi8 hb => ?_)
   have hb := Option.some.inj hb
   subst hb
   refine Tw ?_
   exact endI rfl
  ·have X := And.intro c7 X
   refine Tw ?_
   refine bq_if hb rfl (fun c9 hb => ?_) (fun c9 hb => ?_)
   ·have hb := Option.some.inj hb
    subst hb
    have X := And.intro c9 X
    refine Tw ?_
    exact endI rfl
   ·have hb := Option.some.inj hb
    subst hb
    have X := And.intro c9 X
    refine Tw ?_
    exact endI rfl
def G_lex_Right (w_2 : T_api_Word) : Option (Bool) :=
 if (w_2.Kind_ == (3 : Int)) then
  if (w_2.S_ == ([] : Bytes)) then
   G_lex_lies w_2.V_ w_2.T_ >>= fun r8 =>
   some r8
  else
   some false
 else
  (
   if (!(w_2.V_ == (0 : Int))) then
    some (Ex2.a false)
   else
    if (!(w_2.T_ == (0 : Int))) then
     some (Ex2.a false)
    else
     some (Ex2.b ())
  ) >>= fun j23 => match j23 with
   | .a q => some q
   | .b () =>
    if (w_2.Kind_ == (4 : Int)) then
     some (decide (((List.length w_2.S_ : Nat) : Int) ≤ (4096 : Int)))
    else
     G_token_One w_2.S_ >>= fun (r27, r28) =>
     if (w_2.Kind_ == (1 : Int)) then
      G_lex_IsKey w_2.S_ >>= fun r34 =>
      some r34
     else
      if (w_2.Kind_ == (2 : Int)) then
       if r28 then
        if (r27.Kind_ == (1 : Int)) then
         G_lex_IsKey w_2.S_ >>= fun r39 =>
         some (!r39)
        else
         some false
       else
        some false
      else
       if (w_2.Kind_ == (5 : Int)) then
        if r28 then
         if (r27.Kind_ == (5 : Int)) then
          idx w_2.S_ (0 : Int) >>= fun x44 =>
          some (!((x44.toNat : Int) == (35 : Int)))
         else
          some false
        else
         some false
       else
        some false
theorem G_lex_Right_ok {w_2 : T_api_Word} {r3 : Bool} (hx : G_lex_Right w_2 = some r3) : PureE E 31 [(.agg [(.int .i64 w_2.Kind_), (.str w_2.S_), (.int .i64 w_2.V_), (.int .i64 w_2.T_), (.str w_2.File_), (.int .i64 w_2.Line_)])] (fun v => v = (.bool r3)) := by
 refine pureE_ok fn_lex_Right rfl ?_
 have hb := hx
 dsimp only [G_lex_Right] at hb
 have X := True.intro
 refine Tw ?_
 refine bq_if hb rfl (fun c6 hb => ?_) (fun c6 hb => ?_)
 ·have X := And.intro c6 X
  refine Tw ?_
  refine bq_if hb rfl (fun c7 hb => ?_) (fun c7 hb => ?_)
  ·have X := And.intro c7 X
   refine Tw ?_
   refine bnd1 hb (fun r8 h9 hb => ?_)
   refine pq_eq (G_lex_lies_ok h9) ?_
   have hb := Option.some.inj hb
   subst hb
   refine Tw ?_
   exact endI rfl
  ·have hb := Option.some.inj hb
   subst hb
   have X := And.intro c7 X
   refine Tw ?_
   exact endI rfl
 ·have X := And.intro c6 X
  refine Tw ?_
  refine bnd1 hb (fun j23 hj hb => ?_)
  refine wq_join (fun Z => ∀ (f17 : Fr) (h18 : Heap), Ex2.b () = j23 → (f17 1 = (.ptr 0 0) ∧ h18.box 0 = some [(.int .i64 w_2.Kind_), (.str w_2.S_), (.int .i64 w_2.V_), (.int .i64 w_2.T_), (.str w_2.File_), (.int .i64 w_2.Line_)]) → (0 < h18.n) → Z f17 h18) (fun Z hX12 => ?_) ?_
  ·have hr11 := hb
   clear hb
   have hb := hj
   clear hj
   refine wq_def J_lex_Right_1.eq_1 ?_
   refine Tw ?_
   refine Tw ?_
   refine bq_if hb rfl (fun c13 hb => ?_) (fun c13 hb => ?_)
   ·have hq := Option.some.inj hb
    subst hq
    try dsimp only at hr11
    have hb := hr11
    have hb := Option.some.inj hb
    subst hb
    have X := And.intro c13 X
    refine Tw ?_
    exact endI rfl
   ·have X := And.intro c13 X
    refine Tw ?_
    refine bq_if hb rfl (fun c15 hb => ?_) (fun c15 hb => ?_)
    ·have hq := Option.some.inj hb
     subst hq
     try dsimp only at hr11
     have hb := hr11
     have hb := Option.some.inj hb
     subst hb
     have X := And.intro c15 X
     refine Tw ?_
     exact endI rfl
    ·have hb := Option.some.inj hb
     subst hb
     have X := And.intro c15 X
     refine Tw ?_
     exact hX12 _ _ rfl Cw Cn
  ·intro f17 h18 ej Y19 Y21
   subst ej
   try dsimp only at hb
   have X := And.intro Y19 X
   refine Tw ?_
   refine bq_if hb rfl (fun c26 hb => ?_) (fun c26 hb => ?_)
   ·have hb := Option.some.inj hb
    subst hb
    have X := And.intro c26 X
    refine Tw ?_
    exact endI rfl
   ·have X := And.intro c26 X
    refine Tw ?_
    refine bnd2 hb (fun r27 r28 h29 hb => ?_)
    try dsimp only at hb
    refine pq_eq (G_token_One_ok h29) ?_
    refine Tw ?_
    refine bq_if hb rfl (fun c33 hb => ?_) (fun c33 hb => ?_)
    ·have X := And.intro c33 X
     refine Tw ?_
     refine bnd1 hb (fun r34 h35 hb => ?_)
     refine pq_eq (G_lex_IsKey_ok h35) ?_
     have hb := Option.some.inj hb
     subst hb
     refine Tw ?_
     exact endI rfl
    ·have X := And.intro c33 X
     refine Tw ?_
     refine bq_if hb rfl (fun c36 hb => ?_) (fun c36 hb => ?_)
     ·have X := And.intro c36 X
      refine Tw ?_
      refine bq_if hb rfl (fun c37 hb => ?_) (fun c37 hb => ?_)
      ·have X := And.intro c37 X
       refine Tw ?_
       refine bq_if hb rfl (fun c38 hb => ?_) (fun c38 hb => ?_)
       ·have X := And.intro c38 X
        refine Tw ?_
        refine bnd1 hb (fun r39 h40 hb => ?_)
        refine pq_eq (G_lex_IsKey_ok h40) ?_
        have hb := Option.some.inj hb
        subst hb
        refine Tw ?_
        exact endI rfl
       ·have hb := Option.some.inj hb
        subst hb
        have X := And.intro c38 X
        refine Tw ?_
        exact endI rfl
      ·have hb := Option.some.inj hb
       subst hb
       have X := And.intro c37 X
       refine Tw ?_
       exact endI rfl
     ·have X := And.intro c36 X
      refine Tw ?_
      refine bq_if hb rfl (fun c41 hb => ?_) (fun c41 hb => ?_)
      ·have X := And.intro c41 X
       refine Tw ?_
       refine bq_if hb rfl (fun c42 hb => ?_) (fun c42 hb => ?_)
       ·have X := And.intro c42 X
        refine Tw ?_
        refine bq_if hb rfl (fun c43 hb => ?_) (fun c43 hb => ?_)
        ·have X := And.intro c43 X
         refine Tw ?_
         refine vq_idxS hb (fun x44 hx44 hb => ?_)
         have hb := Option.some.inj hb
         subst hb
         refine Tw ?_
         exact endI rfl
        ·have hb := Option.some.inj hb
         subst hb
         have X := And.intro c43 X
         refine Tw ?_
         exact endI rfl
       ·have hb := Option.some.inj hb
        subst hb
        have X := And.intro c42 X
        refine Tw ?_
        exact endI rfl
      ·have hb := Option.some.inj hb
       subst hb
       have X := And.intro c41 X
       refine Tw ?_
       exact endI rfl
def G_burinref07_Same_L1 (a_14 : List T_api_Word) (b_19 : List T_api_Word) : Int → Option ((Int) ⊕ (Ex2 (Unit) (Unit))) := fun i_24 =>
 if (decide (i_24 < ((List.length a_14 : Nat) : Int))) then
  idx a_14 i_24 >>= fun x36 =>
  idx b_19 i_24 >>= fun x38 =>
  if (!((x36.Kind_ == x38.Kind_) && ((x36.S_ == x38.S_) && ((x36.V_ == x38.V_) && ((x36.T_ == x38.T_) && ((x36.File_ == x38.File_) && (x36.Line_ == x38.Line_))))))) then
   some (Sum.inr (Ex2.a ()))
  else
   some (Sum.inl (IntKind.wrap .i64 (i_24 + (1 : Int))))
 else
  some (Sum.inr (Ex2.b ()))
theorem G_burinref07_Same_L1_ok {κ : Kt} {t : Blk κ} {a_14 : List T_api_Word} {b_19 : List T_api_Word} {o15 : Own} {e16 : Nat} {M17 : List (List PV)} {o20 : Own} {e21 : Nat} {M22 : List (List PV)} {h26 : Heap} (i_24 : Int) (x : Ex2 (Unit) (Unit)) (hx : loopO (G_burinref07_Same_L1 a_14 b_19) i_24 = some x) (hh : True) (ho : True) (s18 : SlR 6 T_api_Word.R o15 e16 a_14 M17) (s23 : SlR 6 T_api_Word.R o20 e21 b_19 M22) : ∀ (f25 : Fr), (f25 0 = (.slice o15 e16 M17) ∧ f25 1 = (.slice o20 e21 M22) ∧ f25 5 = (.int .i64 i_24)) → (∀ (f41 : Fr), Ex2.a () = x → (f41 4 = (.bool false)) → κ.R f41 h26) → (∀ (f46 : Fr), Ex2.b () = x → (True) → κ.B 0 f46 h26) → Lq E (.loop L_burinref07_Same_1) κ t f25 h26 := by
 revert i_24 x
 refine loop1' ?_
 intro i_24 r hb x hn f25  Y27  ex0 ex1
 dsimp only [G_burinref07_Same_L1] at hb
 refine loop_step L_burinref07_Same_1.eq_1 ?_
 have X := And.intro Y27 (And.intro s18.len (s23.len))
 refine Tw ?_
 refine Tw ?_
 refine bq_if hb rfl (fun c35 hb => ?_) (fun c35 hb => ?_)
 ·have X := And.intro c35 X
  refine Tw ?_
  refine vq_iaddr s18 hb (fun x36 cs37 hx36 hb hcs37 => ?_)
  cases (show cs37 = [(.int .i64 x36.Kind_), (.str x36.S_), (.int .i64 x36.V_), (.int .i64 x36.T_), (.str x36.File_), (.int .i64 x36.Line_)] from hcs37)
  refine Tw ?_
  refine vq_iaddr s23 hb (fun x38 cs39 hx38 hb hcs39 => ?_)
  cases (show cs39 = [(.int .i64 x38.Kind_), (.str x38.S_), (.int .i64 x38.V_), (.int .i64 x38.T_), (.str x38.File_), (.int .i64 x38.Line_)] from hcs39)
  refine Tw ?_
  refine bq_if hb rfl (fun c40 hb => ?_) (fun c40 hb => ?_)
  ·have hb := Option.some.inj hb
   subst hb
   have hn : _ = _ := hn
   subst hn
   have X := And.intro c40 X
   refine Tw ?_
   exact ex0 _ rfl Cw
  ·have hb := Option.some.inj hb
   subst hb
   have X := And.intro c40 X
   refine Tw ?_
   exact hn _  Cw ex0 ex1
 ·have hb := Option.some.inj hb
  subst hb
  have hn : _ = _ := hn
  subst hn
  have X := And.intro c35 X
  refine Tw ?_
  exact ex1 _ rfl trivial
def G_burinref07_Same (a_2 : List T_api_Word) (b_7 : List T_api_Word) : Option (Bool) :=
 if (!(((List.length a_2 : Nat) : Int) == ((List.length b_7 : Nat) : Int))) then
  some false
 else
  loopO (G_burinref07_Same_L1 a_2 b_7) (0 : Int) >>= fun q51 => match q51 with
   | .a _ =>
    some false
   | .b _ =>
    some true
theorem G_burinref07_Same_ok {a_2 : List T_api_Word} {b_7 : List T_api_Word} {o3 : Own} {e4 : Nat} {M5 : List (List PV)} {o8 : Own} {e9 : Nat} {M10 : List (List PV)} {r12 : Bool} (hx : G_burinref07_Same a_2 b_7 = some r12) (s6 : SlR 6 T_api_Word.R o3 e4 a_2 M5) (s11 : SlR 6 T_api_Word.R o8 e9 b_7 M10) : PureE E 17 [(.slice o3 e4 M5), (.slice o8 e9 M10)] (fun v => v = (.bool r12)) := by
 refine pureE_ok fn_burinref07_Same rfl ?_
 have hb := hx
 dsimp only [G_burinref07_Same] at hb
 have X := And.intro s6.len (s11.len)
 refine Tw ?_
 refine bq_if hb rfl (fun c13 hb => ?_) (fun c13 hb => ?_)
 ·have hb := Option.some.inj hb
  subst hb
  have X := And.intro c13 X
  refine Tw ?_
  exact endI rfl
 ·have X := And.intro c13 X
  refine Tw ?_
  refine bnd1 hb (fun q51 h52 hb => ?_)
  refine G_burinref07_Same_L1_ok (o15 := o3) (e16 := e4) (M17 := M5) (o20 := o8) (e21 := e9) (M22 := M10) _ _ h52 trivial trivial s6 s11 _ Cw ?_ ?_
  ·intro f41 ex Y43
   subst ex
   try dsimp only at hb
   have hb := Option.some.inj hb
   subst hb
   have X := And.intro Y43 X
   refine Tw ?_
   exact endI rfl
  ·intro f46 ex Y48
   subst ex
   try dsimp only at hb
   have hb := Option.some.inj hb
   subst hb
   refine Tw ?_
   exact endI rfl
def G_burinlaw07_LexParts_L1 (c_131 : List T_api_Word) : Int → Option ((Int) ⊕ (Ex2 (Unit) (Unit))) := fun i_137 =>
 if (decide (i_137 < ((List.length c_131 : Nat) : Int))) then
  idx c_131 i_137 >>= fun x152 =>
  G_lex_Right x152 >>= fun r154 =>
  if (!r154) then
   some (Sum.inr (Ex2.a ()))
  else
   some (Sum.inl (IntKind.wrap .i64 (i_137 + (1 : Int))))
 else
  some (Sum.inr (Ex2.b ()))
theorem G_burinlaw07_LexParts_L1_ok {κ : Kt} {t : Blk κ} {head_120 : Bool} {a_121 : List T_api_Word} {b_126 : List T_api_Word} {c_131 : List T_api_Word} {g_136 : Int} {o122 : Own} {e123 : Nat} {M124 : List (List PV)} {o127 : Own} {e128 : Nat} {M129 : List (List PV)} {o132 : Own} {e133 : Nat} {M134 : List (List PV)} {h139 : Heap} (i_137 : Int) (x : Ex2 (Unit) (Unit)) (hx : loopO (G_burinlaw07_LexParts_L1 c_131) i_137 = some x) (hh : True) (ho : True) (s125 : SlR 6 T_api_Word.R o122 e123 a_121 M124) (s130 : SlR 6 T_api_Word.R o127 e128 b_126 M129) (s135 : SlR 6 T_api_Word.R o132 e133 c_131 M134) : ∀ (f138 : Fr), (f138 5 = (.bool head_120) ∧ f138 6 = (.slice o122 e123 M124) ∧ f138 10 = (.slice o127 e128 M129) ∧ f138 14 = (.slice o132 e133 M134) ∧ f138 15 = (.int .i64 g_136) ∧ f138 18 = (.int .i64 i_137)) → (∀ (f157 : Fr), Ex2.a () = x → (f157 4 = (.bool false)) → κ.R f157 h139) → (∀ (f162 : Fr), Ex2.b () = x → (f162 5 = (.bool head_120) ∧ f162 6 = (.slice o122 e123 M124) ∧ f162 10 = (.slice o127 e128 M129) ∧ f162 14 = (.slice o132 e133 M134) ∧ f162 15 = (.int .i64 g_136)) → κ.B 0 f162 h139) → Lq E (.loop L_burinlaw07_LexParts_1) κ t f138 h139 := by
 revert i_137 x
 refine loop1' ?_
 intro i_137 r hb x hn f138  Y140  ex0 ex1
 dsimp only [G_burinlaw07_LexParts_L1] at hb
 refine loop_step L_burinlaw07_LexParts_1.eq_1 ?_
 have X := And.intro Y140 (And.intro s125.len (And.intro s130.len (s135.len)))
 refine Tw ?_
 refine Tw ?_
 refine bq_if hb rfl (fun c151 hb => ?_) (fun c151 hb => ?_)
 ·have X := And.intro c151 X
  refine Tw ?_
  refine vq_iaddr s135 hb (fun x152 cs153 hx152 hb hcs153 => ?_)
  cases (show cs153 = [(.int .i64 x152.Kind_), (.str x152.S_), (.int .i64 x152.V_), (.int .i64 x152.T_), (.str x152.File_), (.int .i64 x152.Line_)] from hcs153)
  refine Tw ?_
  refine bnd1 hb (fun r154 h155 hb => ?_)
  refine pq_eq (G_lex_Right_ok h155) ?_
  refine Tw ?_
  refine bq_if hb rfl (fun c156 hb => ?_) (fun c156 hb => ?_)
  ·have hb := Option.some.inj hb
   subst hb
   have hn : _ = _ := hn
   subst hn
   have X := And.intro c156 X
   refine Tw ?_
   exact ex0 _ rfl Cw
  ·have hb := Option.some.inj hb
   subst hb
   have X := And.intro c156 X
   refine Tw ?_
   exact hn _  Cw ex0 ex1
 ·have hb := Option.some.inj hb
  subst hb
  have hn : _ = _ := hn
  subst hn
  have X := And.intro c151 X
  refine Tw ?_
  exact ex1 _ rfl Cw
def G_burinlaw07_LexParts (l_2 : List T_api_Tok) (m_7 : List T_api_Tok) : Option (Bool) :=
 G_burinlaw07_shown  >>= fun r13 =>
 subT l_2 (if (1000 : Int) < ((List.length l_2 : Nat) : Int) then (1000 : Int) else ((List.length l_2 : Nat) : Int)) >>= fun t15 =>
 subT m_7 (if (1000 : Int) < ((List.length m_7 : Nat) : Int) then (1000 : Int) else ((List.length m_7 : Nat) : Int)) >>= fun t19 =>
 (
  if (decide ((0 : Int) < ((List.length t15 : Nat) : Int))) then
   if (decide ((0 : Int) < ((List.length t19 : Nat) : Int))) then
    idx t15 (IntKind.wrap .i64 (((List.length t15 : Nat) : Int) - (1 : Int))) >>= fun x28 =>
    if (x28.Kind_ == (4 : Int)) then
     idx t19 (0 : Int) >>= fun x31 =>
     if (x31.Kind_ == (4 : Int)) then
      some (Ex2.a r13)
     else
      some (Ex2.b ())
    else
     some (Ex2.b ())
   else
    some (Ex2.b ())
  else
   some (Ex2.b ())
 ) >>= fun j40 => match j40 with
  | .a q => some q
  | .b () =>
   G_lex_Words t15 >>= fun (r44, r49, r50, r51) =>
   G_lex_Words t19 >>= fun (r53, r58, r59, r60) =>
   mks 56 (0 : Int) (IntKind.wrap .i64 (((List.length t15 : Nat) : Int) + ((List.length t19 : Nat) : Int))) (T_api_Tok.mk (0 : Int) [] [] (0 : Int) false false) >>= fun t62 =>
   app 56 t62 t15 >>= fun t71 =>
   app 56 t71 t19 >>= fun t80 =>
   G_lex_Words t80 >>= fun (r89, r94, r95, r96) =>
   (
    if (!(r49 == (0 : Int))) then
     if r13 then
      some (Ex2.a (r94 == (70 : Int)))
     else
      some (Ex2.a false)
    else
     if (!(r58 == (0 : Int))) then
      if r13 then
       some (Ex2.a (r94 == (70 : Int)))
      else
       some (Ex2.a false)
     else
      some (Ex2.b ())
   ) >>= fun j114 => match j114 with
    | .a q => some q
    | .b () =>
     loopO (G_burinlaw07_LexParts_L1 r89) (0 : Int) >>= fun q167 => match q167 with
      | .a _ =>
       some false
      | .b _ =>
       mks 64 (0 : Int) (IntKind.wrap .i64 (((List.length r44 : Nat) : Int) + ((List.length r53 : Nat) : Int))) (T_api_Word.mk (0 : Int) [] (0 : Int) (0 : Int) [] (0 : Int)) >>= fun t175 =>
       app 64 t175 r44 >>= fun t184 =>
       app 64 t184 r53 >>= fun t193 =>
       if r13 then
        if (r94 == (0 : Int)) then
         G_burinref07_Same r89 t193 >>= fun r204 =>
         some r204
        else
         some false
       else
        some false
theorem G_burinlaw07_LexParts_ok {l_2 : List T_api_Tok} {m_7 : List T_api_Tok} {o3 : Own} {e4 : Nat} {M5 : List (List PV)} {o8 : Own} {e9 : Nat} {M10 : List (List PV)} {r12 : Bool} (hx : G_burinlaw07_LexParts l_2 m_7 = some r12) (s6 : SlR 6 T_api_Tok.R o3 e4 l_2 M5) (s11 : SlR 6 T_api_Tok.R o8 e9 m_7 M10) : PureE E 11 [(.slice o3 e4 M5), (.slice o8 e9 M10)] (fun v => v = (.bool r12)) := by
 refine pureE_ok fn_burinlaw07_LexParts rfl ?_
 have hb := hx
 dsimp only [G_burinlaw07_LexParts] at hb
 have X := And.intro s6.len (s11.len)
 refine Tw ?_
 refine bnd1 hb (fun r13 h14 hb => ?_)
 refine pq_eq (G_burinlaw07_shown_ok h14) ?_
 refine Tw ?_
 refine vq_subT s6 hb (fun t15 o16 M17 ht15 hb s18 => ?_)
 have X := And.intro s18.len X
 refine Tw ?_
 refine vq_subT s11 hb (fun t19 o20 M21 ht19 hb s22 => ?_)
 have X := And.intro s22.len X
 refine Tw ?_
 refine bnd1 hb (fun j40 hj hb => ?_)
 refine wq_joinF (fun Z => ∀ (f35 : Fr), Ex2.b () = j40 → (f35 0 = (.slice o16 e4 M17) ∧ f35 1 = (.slice o20 e9 M21) ∧ f35 5 = (.bool r13)) → Z f35) (fun Z hX25 => ?_) ?_
 ·have hr24 := hb
  clear hb
  have hb := hj
  clear hj
  refine wq_def J_burinlaw07_LexParts_1.eq_1 ?_
  refine Tw ?_
  refine Tw ?_
  refine bq_if hb rfl (fun c26 hb => ?_) (fun c26 hb => ?_)
  ·have X := And.intro c26 X
   refine Tw ?_
   refine bq_if hb rfl (fun c27 hb => ?_) (fun c27 hb => ?_)
   ·have X := And.intro c27 X
    refine Tw ?_
    refine vq_iaddr s18 hb (fun x28 cs29 hx28 hb hcs29 => ?_)
    cases (show cs29 = [(.int .i64 x28.Kind_), (.str x28.S_), (.str x28.File_), (.int .i64 x28.Line_), (.bool x28.Space_), (.bool x28.First_)] from hcs29)
    refine Tw ?_
    refine bq_if hb rfl (fun c30 hb => ?_) (fun c30 hb => ?_)
    ·have X := And.intro c30 X
     refine Tw ?_
     refine vq_iaddr s22 hb (fun x31 cs32 hx31 hb hcs32 => ?_)
     cases (show cs32 = [(.int .i64 x31.Kind_), (.str x31.S_), (.str x31.File_), (.int .i64 x31.Line_), (.bool x31.Space_), (.bool x31.First_)] from hcs32)
     refine Tw ?_
     refine bq_if hb rfl (fun c33 hb => ?_) (fun c33 hb => ?_)
     ·have hq := Option.some.inj hb
      subst hq
      try dsimp only at hr24
      have hb := hr24
      have hb := Option.some.inj hb
      subst hb
      have X := And.intro c33 X
      refine Tw ?_
      exact endI rfl
     ·have hb := Option.some.inj hb
      subst hb
      have X := And.intro c33 X
      refine Tw ?_
      exact hX25 _ rfl Cw
    ·have hb := Option.some.inj hb
     subst hb
     have X := And.intro c30 X
     refine Tw ?_
     exact hX25 _ rfl Cw
   ·have hb := Option.some.inj hb
    subst hb
    have X := And.intro c27 X
    refine Tw ?_
    exact hX25 _ rfl Cw
  ·have hb := Option.some.inj hb
   subst hb
   have X := And.intro c26 X
   refine Tw ?_
   exact hX25 _ rfl Cw
 ·intro f35 ej Y37
  subst ej
  try dsimp only at hb
  have X := And.intro Y37 X
  refine Tw ?_
  refine bnd4 hb (fun r44 r49 r50 r51 h52 hb => ?_)
  try dsimp only at hb
  refine pq_in1 (G_lex_Words_ok h52 s18.st) (fun o45 e46 M47 s48 => ?_)
  have X := And.intro s48.len X
  refine Tw ?_
  refine bnd4 hb (fun r53 r58 r59 r60 h61 hb => ?_)
  try dsimp only at hb
  refine pq_in1 (G_lex_Words_ok h61 s22.st) (fun o54 e55 M56 s57 => ?_)
  have X := And.intro s57.len X
  refine Tw ?_
  refine vq_mks (R := T_api_Tok.R) (z := (T_api_Tok.mk (0 : Int) [] [] (0 : Int) false false)) rfl hb (fun t62 o63 M64 h65 ht62 hb s66 O67 F68 => ?_)
  have q69 := F68.n
  try simp only [HN] at q69
  have X := And.intro F68.box (And.intro F68.loop (And.intro F68.bty (And.intro O67 (And.intro s66.len X))))
  refine Tw ?_
  refine vq_app s66 Cw s18 hb (fun t71 o72 M73 h74 ht71 hb s75 O76 F77 => ?_)
  have q78 := F77.n
  try simp only [HN] at q78
  have X := And.intro F77.box (And.intro F77.loop (And.intro F77.bty (And.intro O76 (And.intro s75.len X))))
  refine Tw ?_
  refine vq_app s75 Cw s22 hb (fun t80 o81 M82 h83 ht80 hb s84 O85 F86 => ?_)
  have q87 := F86.n
  try simp only [HN] at q87
  have X := And.intro F86.box (And.intro F86.loop (And.intro F86.bty (And.intro O85 (And.intro s84.len X))))
  refine Tw ?_
  refine bnd4 hb (fun r89 r94 r95 r96 h97 hb => ?_)
  try dsimp only at hb
  refine pq_in1 (G_lex_Words_ok h97 s84.st) (fun o90 e91 M92 s93 => ?_)
  have X := And.intro s93.len X
  refine Tw ?_
  refine bnd1 hb (fun j114 hj hb => ?_)
  refine wq_joinF (fun Z => ∀ (f109 : Fr), Ex2.b () = j114 → (f109 5 = (.bool r13) ∧ f109 6 = (.slice o45 e46 M47) ∧ f109 10 = (.slice o54 e55 M56) ∧ f109 14 = (.slice o90 e91 M92) ∧ f109 15 = (.int .i64 r94)) → Z f109) (fun Z hX100 => ?_) ?_
  ·have hr99 := hb
   clear hb
   have hb := hj
   clear hj
   refine wq_def J_burinlaw07_LexParts_2.eq_1 ?_
   refine Tw ?_
   refine Tw ?_
   refine bq_if hb rfl (fun c101 hb => ?_) (fun c101 hb => ?_)
   ·have X := And.intro c101 X
    refine Tw ?_
    refine bq_if hb rfl (fun c102 hb => ?_) (fun c102 hb => ?_)
    ·have hq := Option.some.inj hb
     subst hq
     try dsimp only at hr99
     have hb := hr99
     have hb := Option.some.inj hb
     subst hb
     have X := And.intro c102 X
     refine Tw ?_
     exact endI rfl
    ·have hq := Option.some.inj hb
     subst hq
     try dsimp only at hr99
     have hb := hr99
     have hb := Option.some.inj hb
     subst hb
     have X := And.intro c102 X
     refine Tw ?_
     exact endI rfl
   ·have X := And.intro c101 X
    refine Tw ?_
    refine bq_if hb rfl (fun c105 hb => ?_) (fun c105 hb => ?_)
    ·have X := And.intro c105 X
     refine Tw ?_
     refine bq_if hb rfl (fun c106 hb => ?_) (fun c106 hb => ?_)
     ·have hq := Option.some.inj hb
      subst hq
      try dsimp only at hr99
      have hb := hr99
      have hb := Option.some.inj hb
      subst hb
      have X := And.intro c106 X
      refine Tw ?_
      exact endI rfl
     ·have hq := Option.some.inj hb
      subst hq
      try dsimp only at hr99
      have hb := hr99
      have hb := Option.some.inj hb
      subst hb
      have X := And.intro c106 X
      refine Tw ?_
      exact endI rfl
    ·have hb := Option.some.inj hb
     subst hb
     have X := And.intro c105 X
     refine Tw ?_
     exact hX100 _ rfl Cw
  ·intro f109 ej Y111
   subst ej
   try dsimp only at hb
   have X := And.intro Y111 X
   refine Tw ?_
   refine bnd1 hb (fun q167 h168 hb => ?_)
   refine G_burinlaw07_LexParts_L1_ok (head_120 := r13) (a_121 := r44) (o122 := o45) (e123 := e46) (M124 := M47) (b_126 := r53) (o127 := o54) (e128 := e55) (M129 := M56) (o132 := o90) (e133 := e91) (M134 := M92) (g_136 := r94) _ _ h168 trivial trivial s48 s57 s93 _ Cw ?_ ?_
   ·intro f157 ex Y159
    subst ex
    try dsimp only at hb
    have hb := Option.some.inj hb
    subst hb
    have X := And.intro Y159 X
    refine Tw ?_
    exact endI rfl
   ·intro f162 ex Y164
    subst ex
    try dsimp only at hb
    have X := And.intro Y164 X
    refine Tw ?_
    refine vq_mks (R := T_api_Word.R) (z := (T_api_Word.mk (0 : Int) [] (0 : Int) (0 : Int) [] (0 : Int))) rfl hb (fun t175 o176 M177 h178 ht175 hb s179 O180 F181 => ?_)
    have q182 := F181.n
    try simp only [HN] at q182
    have X := And.intro F181.box (And.intro F181.loop (And.intro F181.bty (And.intro O180 (And.intro s179.len X))))
    refine Tw ?_
    refine vq_app s179 Cw s48 hb (fun t184 o185 M186 h187 ht184 hb s188 O189 F190 => ?_)
    have q191 := F190.n
    try simp only [HN] at q191
    have X := And.intro F190.box (And.intro F190.loop (And.intro F190.bty (And.intro O189 (And.intro s188.len X))))
    refine Tw ?_
    refine vq_app s188 Cw s57 hb (fun t193 o194 M195 h196 ht193 hb s197 O198 F199 => ?_)
    have q200 := F199.n
    try simp only [HN] at q200
    have X := And.intro F199.box (And.intro F199.loop (And.intro F199.bty (And.intro O198 (And.intro s197.len X))))
    refine Tw ?_
    refine bq_if hb rfl (fun c202 hb => ?_) (fun c202 hb => ?_)
    ·have X := And.intro c202 X
     refine Tw ?_
     refine bq_if hb rfl (fun c203 hb => ?_) (fun c203 hb => ?_)
     ·have X := And.intro c203 X
      refine Tw ?_
      refine bnd1 hb (fun r204 h205 hb => ?_)
      refine pq_eq (G_burinref07_Same_ok h205 s93.st s197.st) ?_
      have hb := Option.some.inj hb
      subst hb
      refine Tw ?_
      exact endI rfl
     ·have hb := Option.some.inj hb
      subst hb
      have X := And.intro c203 X
      refine Tw ?_
      exact endI rfl
    ·have hb := Option.some.inj hb
     subst hb
     have X := And.intro c202 X
     refine Tw ?_
     exact endI rfl
end Go.Proofs.YtmngkcpobmhnoaaGreatDoor.Sim
