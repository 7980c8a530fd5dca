/- Printed functions, continued. -/
import Derived.Test.YtmngkcpobmhnoaaGreatDoorKG4
set_option linter.all false
set_option maxHeartbeats 4000000
set_option maxRecDepth 20000
namespace Go.Proofs.YtmngkcpobmhnoaaGreatDoor.Sim
def G_burinref02_Lex_L1 (l_16 : List T_api_Line) : Int × List T_api_Tok × Bool × Bool × Bool × Int → Option ((Int × List T_api_Tok × Bool × Bool × Bool × Int) ⊕ (Ex2 (Int × Int × List T_api_Tok × Bool × Bool × Bool × Int) (List T_api_Tok × Bool × Bool × Bool × Int))) := fun (i_21, v28, v33, v34, v35, v36) =>
 if (decide (i_21 < ((List.length l_16 : Nat) : Int))) then
  idx l_16 i_21 >>= fun x45 =>
  (
   if (!v35) then
    some (false, true)
   else
    some (v33, v34)
  ) >>= fun (v60, v61) =>
  loopO (G_burinref02_Lex_L2 x45.S_ x45.N_) ((0 : Int), v28, v60, v61, v35, v36) >>= fun q221 => match q221 with
   | .a (v191, v197, v202, v203, v204) =>
    if (!(v191 == (0 : Int))) then
     idx l_16 i_21 >>= fun x229 =>
     some (Sum.inr (Ex2.a (v191, x229.N_, v197, v202, v203, false, v204)))
    else
     some (Sum.inl ((IntKind.wrap .i64 (i_21 + (1 : Int))), v197, v202, v203, false, v204))
   | .b (v211, v216, v217, v218, v219) =>
    if (!((0 : Int) == (0 : Int))) then
     idx l_16 i_21 >>= fun x236 =>
     some (Sum.inr (Ex2.a ((0 : Int), x236.N_, v211, v216, v217, v218, v219)))
    else
     some (Sum.inl ((IntKind.wrap .i64 (i_21 + (1 : Int))), v211, v216, v217, v218, v219))
 else
  some (Sum.inr (Ex2.b (v28, v33, v34, v35, v36)))
theorem G_burinref02_Lex_L1_ok {κ : Kt} {t : Blk κ} {l_16 : List T_api_Line} {o17 : Own} {e18 : Nat} {M19 : List (List PV)} {b27 : Nat} (i_21 : Int) (v28 : List T_api_Tok) (v33 : Bool) (v34 : Bool) (v35 : Bool) (v36 : Int) (x : Ex2 (Int × Int × List T_api_Tok × Bool × Bool × Bool × Int) (List T_api_Tok × Bool × Bool × Bool × Int)) (hx : loopO (G_burinref02_Lex_L1 l_16) (i_21, v28, v33, v34, v35, v36) = some x) (s20 : SlR 2 T_api_Line.R o17 e18 l_16 M19) : ∀ (f22 : Fr) (h23 : Heap) (o29 : Own) (e30 : Nat) (M31 : List (List PV)), (f22 0 = (.slice o17 e18 M19) ∧ f22 5 = (.ptr b27 0) ∧ f22 6 = (.int .i64 i_21)) → (h23.box b27 = some [(.slice o29 e30 M31), (.bool v33), (.bool v34), (.bool v35), (.int .i64 v36)] ∧ OwnOK h23 o29) → (b27 < h23.n) → SlR 6 T_api_Tok.R o29 e30 v28 M31 → (∀ (f240 : Fr) (h241 : Heap) (v238 : Int) (v239 : Int) (v245 : List T_api_Tok) (v250 : Bool) (v251 : Bool) (v252 : Bool) (v253 : Int) (o246 : Own) (e247 : Nat) (M248 : List (List PV)), Ex2.a (v238, v239, v245, v250, v251, v252, v253) = x → (f240 2 = (.slice .nil 0 []) ∧ f240 3 = (.int .i64 v238) ∧ f240 4 = (.int .i64 v239) ∧ h241.box b27 = some [(.slice o246 e247 M248), (.bool v250), (.bool v251), (.bool v252), (.int .i64 v253)] ∧ OwnOK h241 o246) → (b27 < h241.n) → SlR 6 T_api_Tok.R o246 e247 v245 M248 → κ.R f240 h241) → (∀ (f255 : Fr) (h256 : Heap) (v260 : List T_api_Tok) (v265 : Bool) (v266 : Bool) (v267 : Bool) (v268 : Int) (o261 : Own) (e262 : Nat) (M263 : List (List PV)), Ex2.b (v260, v265, v266, v267, v268) = x → (f255 5 = (.ptr b27 0) ∧ h256.box b27 = some [(.slice o261 e262 M263), (.bool v265), (.bool v266), (.bool v267), (.int .i64 v268)] ∧ OwnOK h256 o261) → (b27 < h256.n) → SlR 6 T_api_Tok.R o261 e262 v260 M263 → κ.B 0 f255 h256) → Lq E (.loop L_burinref02_Lex_1) κ t f22 h23 := by
 revert i_21 v28 v33 v34 v35 v36 x
 refine loop6' ?_
 intro i_21 v28 v33 v34 v35 v36 r hb x hn f22 h23 o29 e30 M31 Y24 Y25 Y26 s32 ex0 ex1
 dsimp only [G_burinref02_Lex_L1] at hb
 refine loop_step L_burinref02_Lex_1.eq_1 ?_
 have X := And.intro Y24 (And.intro Y25 (And.intro s20.len (s32.len)))
 refine Tw ?_
 refine Tw ?_
 refine bq_if hb rfl (fun c44 hb => ?_) (fun c44 hb => ?_)
 ·have X := And.intro c44 X
  refine Tw ?_
  refine vq_iaddr s20 hb (fun x45 cs46 hx45 hb hcs46 => ?_)
  cases (show cs46 = [(.int .i64 x45.N_), (.str x45.S_)] from hcs46)
  refine Tw ?_
  refine fq_in fn_burinref02_lexer_line (by rfl) ?_
  refine Tw ?_
  refine bnd1 hb (fun j63 hj hb => ?_)
  refine wq_join (fun Z => ∀ (f55 : Fr) (h56 : Heap) (v60 : Bool) (v61 : Bool), (v60, v61) = j63 → (f55 0 = (.ptr b27 0) ∧ f55 3 = (.ptr h23.n 0) ∧ f55 5 = (.str x45.S_) ∧ h56.box b27 = some [(.slice o29 e30 M31), (.bool v60), (.bool v61), (.bool v35), (.int .i64 v36)] ∧ h56.box h23.n = some [(.int .i64 x45.N_), (.str x45.S_)] ∧ OwnOK h56 o29) → (b27 < h23.n ∧ h23.n < h56.n) → Z f55 h56) (fun Z hX51 => ?_) ?_
  ·have hr50 := hb
   clear hb
   have hb := hj
   clear hj
   refine wq_def J_burinref02_lexer_line_1.eq_1 ?_
   refine Tw ?_
   refine Tw ?_
   refine bq_if hb rfl (fun c52 hb => ?_) (fun c52 hb => ?_)
   ·have hb := Option.some.inj hb
    subst hb
    have X := And.intro c52 X
    refine Tw ?_
    exact hX51 _ _ false true rfl Cw Cn
   ·have hb := Option.some.inj hb
    subst hb
    have X := And.intro c52 X
    refine Tw ?_
    exact hX51 _ _ v33 v34 rfl Cw Cn
  ·intro f55 h56 v60 v61 ej Y57 Y59
   subst ej
   try dsimp only at hb
   have X := And.intro Y57 X
   refine Tw ?_
   refine bnd1 hb (fun q221 h222 hb => ?_)
   refine G_burinref02_Lex_L2_ok (v89 := x45.S_) (b77 := b27) (b87 := h23.n) _ _ _ _ _ _ _ h222 _ _ o29 e30 M31 Cw Cw Cn s32 ?_ ?_
   ·intro f192 h193 v191 v197 v202 v203 v204 o198 e199 M200 ex Y194 Y196 s201
    subst ex
    try dsimp only at hb
    have X := And.intro Y194 (And.intro s201.len X)
    refine Tw ?_
    refine Tw ?_
    refine bq_if hb rfl (fun c228 hb => ?_) (fun c228 hb => ?_)
    ·have X := And.intro c228 X
     refine Tw ?_
     refine vq_iaddr s20 hb (fun x229 cs230 hx229 hb hcs230 => ?_)
     cases (show cs230 = [(.int .i64 x229.N_), (.str x229.S_)] from hcs230)
     have hb := Option.some.inj hb
     subst hb
     have hn : _ = _ := hn
     subst hn
     refine Tw ?_
     exact ex0 _ _ v191 x229.N_ v197 v202 v203 false v204 o198 e199 M200 rfl Cw Cn s201
    ·have hb := Option.some.inj hb
     subst hb
     have X := And.intro c228 X
     refine Tw ?_
     exact hn _ _ o198 e199 M200 Cw Cw Cn s201 ex0 ex1
   ·intro f206 h207 v211 v216 v217 v218 v219 o212 e213 M214 ex Y208 Y210 s215
    subst ex
    try dsimp only at hb
    have X := And.intro Y208 (And.intro s215.len X)
    refine Tw ?_
    refine Tw ?_
    refine bq_if hb rfl (fun c235 hb => ?_) (fun c235 hb => ?_)
    ·have X := And.intro c235 X
     refine Tw ?_
     refine vq_iaddr s20 hb (fun x236 cs237 hx236 hb hcs237 => ?_)
     cases (show cs237 = [(.int .i64 x236.N_), (.str x236.S_)] from hcs237)
     have hb := Option.some.inj hb
     subst hb
     have hn : _ = _ := hn
     subst hn
     refine Tw ?_
     exact ex0 _ _ (0 : Int) x236.N_ v211 v216 v217 v218 v219 o212 e213 M214 rfl Cw Cn s215
    ·have hb := Option.some.inj hb
     subst hb
     have X := And.intro c235 X
     refine Tw ?_
     exact hn _ _ o212 e213 M214 Cw Cw Cn s215 ex0 ex1
 ·have hb := Option.some.inj hb
  subst hb
  have hn : _ = _ := hn
  subst hn
  have X := And.intro c44 X
  refine Tw ?_
  exact ex1 _ _ v28 v33 v34 v35 v36 o29 e30 M31 rfl Cw Cn s32
def G_burinref02_Lex (l_2 : List T_api_Line) : Option (List T_api_Tok × Int × Int) :=
 loopO (G_burinref02_Lex_L1 l_2) ((0 : Int), ([] : List T_api_Tok), false, false, false, (0 : Int)) >>= fun q270 => match q270 with
  | .a (v238, v239, v245, v250, v251, v252, v253) =>
   some (([] : List T_api_Tok), v238, v239)
  | .b (v260, v265, v266, v267, v268) =>
   if v267 then
    some (([] : List T_api_Tok), (20 : Int), v268)
   else
    some (v260, (0 : Int), (0 : Int))
theorem G_burinref02_Lex_ok {l_2 : List T_api_Line} {o3 : Own} {e4 : Nat} {M5 : List (List PV)} {r7 : List T_api_Tok} {r8 : Int} {r9 : Int} (hx : G_burinref02_Lex l_2 = some (r7, r8, r9)) (s6 : SlR 2 T_api_Line.R o3 e4 l_2 M5) : PureE E 73 [(.slice o3 e4 M5)] (fun v => ∃ o10 e11 M12, v = (.tuple [(.slice o10 e11 M12), (.int .i64 r8), (.int .i64 r9)]) ∧ SlR 6 T_api_Tok.R o10 e11 r7 M12) := by
 refine pureE_ok fn_burinref02_Lex rfl ?_
 have hb := hx
 dsimp only [G_burinref02_Lex] at hb
 have X := s6.len
 refine Tw ?_
 refine bnd1 hb (fun q270 h271 hb => ?_)
 refine G_burinref02_Lex_L1_ok (o17 := o3) (e18 := e4) (M19 := M5) (b27 := 0) _ _ _ _ _ _ _ h271 s6 _ _ .nil 0 [] Cw Cw Cn slr_nil ?_ ?_
 ·intro f240 h241 v238 v239 v245 v250 v251 v252 v253 o246 e247 M248 ex Y242 Y244 s249
  subst ex
  try dsimp only at hb
  have hb := Option.some.inj hb
  obtain ⟨e0, hb⟩ := Prod.mk.inj hb
  obtain ⟨e1, e2⟩ := Prod.mk.inj hb
  subst e0
  subst e1
  subst e2
  have X := And.intro Y242 (And.intro s249.len X)
  refine Tw ?_
  exact endI ⟨.nil, 0, [], rfl, (slr_nil (R := T_api_Tok.R)).st⟩
 ·intro f255 h256 v260 v265 v266 v267 v268 o261 e262 M263 ex Y257 Y259 s264
  subst ex
  try dsimp only at hb
  have X := And.intro Y257 (And.intro s264.len X)
  refine Tw ?_
  refine bq_if hb rfl (fun c282 hb => ?_) (fun c282 hb => ?_)
  ·have hb := Option.some.inj hb
   obtain ⟨e0, hb⟩ := Prod.mk.inj hb
   obtain ⟨e1, e2⟩ := Prod.mk.inj hb
   subst e0
   subst e1
   subst e2
   have X := And.intro c282 X
   refine Tw ?_
   exact endI ⟨.nil, 0, [], rfl, (slr_nil (R := T_api_Tok.R)).st⟩
  ·have hb := Option.some.inj hb
   obtain ⟨e0, hb⟩ := Prod.mk.inj hb
   obtain ⟨e1, e2⟩ := Prod.mk.inj hb
   subst e0
   subst e1
   subst e2
   have X := And.intro c282 X
   refine Tw ?_
   exact endI ⟨(stO o261), e262, M263, rfl, s264.st⟩
def G_burinref02_One (s_2 : Bytes) : Option (T_api_Tok × Bool) :=
 G_burinref02_Lex ([(T_api_Line.mk (1 : Int) s_2)] : List T_api_Line) >>= fun (r15, r20, r21) =>
 if (!(r20 == (0 : Int))) then
  some ((T_api_Tok.mk (0 : Int) [] [] (0 : Int) false false), false)
 else
  if (!(((List.length r15 : Nat) : Int) == (1 : Int))) then
   some ((T_api_Tok.mk (0 : Int) [] [] (0 : Int) false false), false)
  else
   idx r15 (0 : Int) >>= fun x27 =>
   if (!(((List.length x27.S_ : Nat) : Int) == ((List.length s_2 : Nat) : Int))) then
    some ((T_api_Tok.mk (0 : Int) [] [] (0 : Int) false false), false)
   else
    idx r15 (0 : Int) >>= fun x31 =>
    some (x31, true)
theorem G_burinref02_One_ok {s_2 : Bytes} {r3 : T_api_Tok} {r4 : Bool} (hx : G_burinref02_One s_2 = some (r3, r4)) : PureE E 48 [(.str s_2)] (fun v => v = (.tuple [(.agg [(.int .i64 r3.Kind_), (.str r3.S_), (.str r3.File_), (.int .i64 r3.Line_), (.bool r3.Space_), (.bool r3.First_)]), (.bool r4)])) := by
 refine pureE_ok fn_burinref02_One rfl ?_
 have hb := hx
 dsimp only [G_burinref02_One] at hb
 have X := True.intro
 refine Tw ?_
 refine vq_new rfl (fun o7 h8 n12 O9 F10 => ?_)
 have q11 := F10.n
 try simp only [HN] at q11
 have s13 : SlR 2 T_api_Line.R o7 2 ([(T_api_Line.mk (1 : Int) s_2)] : List T_api_Line) [[(.int .i64 (1 : Int)), (.str s_2)]] := (slr_cons n12 rfl (slr_0 (R := T_api_Line.R)))
 have X := And.intro F10.box (And.intro F10.loop (And.intro F10.bty (And.intro O9 X)))
 refine Tw ?_
 refine bnd3 hb (fun r15 r20 r21 h22 hb => ?_)
 try dsimp only at hb
 refine pq_in1 (G_burinref02_Lex_ok h22 s13.st) (fun o16 e17 M18 s19 => ?_)
 have X := And.intro s19.len X
 refine Tw ?_
 refine bq_if hb rfl (fun c23 hb => ?_) (fun c23 hb => ?_)
 ·have hb := Option.some.inj hb
  obtain ⟨e0, e1⟩ := Prod.mk.inj hb
  subst e0
  subst e1
  have X := And.intro c23 X
  refine Tw ?_
  exact endI rfl
 ·have X := And.intro c23 X
  refine Tw ?_
  refine bq_if hb rfl (fun c25 hb => ?_) (fun c25 hb => ?_)
  ·have hb := Option.some.inj hb
   obtain ⟨e0, e1⟩ := Prod.mk.inj hb
   subst e0
   subst e1
   have X := And.intro c25 X
   refine Tw ?_
   exact endI rfl
  ·have X := And.intro c25 X
   refine Tw ?_
   refine vq_iaddr s19 hb (fun x27 cs28 hx27 hb hcs28 => ?_)
   cases (show cs28 = [(.int .i64 x27.Kind_), (.str x27.S_), (.str x27.File_), (.int .i64 x27.Line_), (.bool x27.Space_), (.bool x27.First_)] from hcs28)
   refine Tw ?_
   refine bq_if hb rfl (fun c29 hb => ?_) (fun c29 hb => ?_)
   ·have hb := Option.some.inj hb
    obtain ⟨e0, e1⟩ := Prod.mk.inj hb
    subst e0
    subst e1
    have X := And.intro c29 X
    refine Tw ?_
    exact endI rfl
   ·have X := And.intro c29 X
    refine Tw ?_
    refine vq_iaddr s19 hb (fun x31 cs32 hx31 hb hcs32 => ?_)
    cases (show cs32 = [(.int .i64 x31.Kind_), (.str x31.S_), (.str x31.File_), (.int .i64 x31.Line_), (.bool x31.Space_), (.bool x31.First_)] from hcs32)
    have hb := Option.some.inj hb
    obtain ⟨e0, e1⟩ := Prod.mk.inj hb
    subst e0
    subst e1
    refine Tw ?_
    exact endI rfl
def G_burinref05_hex (c_2 : Int) : Option (Int) :=
 (
  if (decide ((48 : Int) ≤ c_2)) then
   if (decide (c_2 ≤ (57 : Int))) then
    some (Ex2.a (IntKind.wrap .i64 (IntKind.wrap .u8 (c_2 - (48 : Int)))))
   else
    some (Ex2.b ())
  else
   some (Ex2.b ())
 ) >>= fun j15 => match j15 with
  | .a q => some q
  | .b () =>
   (
    if (decide ((97 : Int) ≤ c_2)) then
     if (decide (c_2 ≤ (102 : Int))) then
      some (Ex2.a (IntKind.wrap .i64 ((IntKind.wrap .i64 (IntKind.wrap .u8 (c_2 - (97 : Int)))) + (10 : Int))))
     else
      some (Ex2.b ())
    else
     some (Ex2.b ())
   ) >>= fun j28 => match j28 with
    | .a q => some q
    | .b () =>
     if (decide ((65 : Int) ≤ c_2)) then
      if (decide (c_2 ≤ (70 : Int))) then
       some (IntKind.wrap .i64 ((IntKind.wrap .i64 (IntKind.wrap .u8 (c_2 - (65 : Int)))) + (10 : Int)))
      else
       some (16 : Int)
     else
      some (16 : Int)
theorem G_burinref05_hex_ok {c_2 : Int} {r3 : Int} (hx : G_burinref05_hex c_2 = some r3) : PureE E 122 [(.int .u8 c_2)] (fun v => v = (.int .i64 r3)) := by
 refine pureE_ok fn_burinref05_hex rfl ?_
 have hb := hx
 dsimp only [G_burinref05_hex] at hb
 have X := True.intro
 refine Tw ?_
 refine bnd1 hb (fun j15 hj hb => ?_)
 refine wq_joinF (fun Z => ∀ (f10 : Fr), Ex2.b () = j15 → (f10 0 = (.int .u8 c_2)) → Z f10) (fun Z hX6 => ?_) ?_
 ·have hr5 := hb
  clear hb
  have hb := hj
  clear hj
  refine wq_def J_burinref05_hex_1.eq_1 ?_
  refine Tw ?_
  refine Tw ?_
  refine bq_if hb rfl (fun c7 hb => ?_) (fun c7 hb => ?_)
  ·have X := And.intro c7 X
   refine Tw ?_
   refine bq_if hb rfl (fun c8 hb => ?_) (fun c8 hb => ?_)
   ·have hq := Option.some.inj hb
    subst hq
    try dsimp only at hr5
    have hb := hr5
    have hb := Option.some.inj hb
    subst hb
    have X := And.intro c8 X
    refine Tw ?_
    exact endI rfl
   ·have hb := Option.some.inj hb
    subst hb
    have X := And.intro c8 X
    refine Tw ?_
    exact hX6 _ rfl Cw
  ·have hb := Option.some.inj hb
   subst hb
   have X := And.intro c7 X
   refine Tw ?_
   exact hX6 _ rfl Cw
 ·intro f10 ej Y12
  subst ej
  try dsimp only at hb
  have X := And.intro Y12 X
  refine Tw ?_
  refine bnd1 hb (fun j28 hj hb => ?_)
  refine wq_joinF (fun Z => ∀ (f23 : Fr), Ex2.b () = j28 → (f23 0 = (.int .u8 c_2)) → Z f23) (fun Z hX19 => ?_) ?_
  ·have hr18 := hb
   clear hb
   have hb := hj
   clear hj
   refine wq_def J_burinref05_hex_2.eq_1 ?_
   refine Tw ?_
   refine Tw ?_
   refine bq_if hb rfl (fun c20 hb => ?_) (fun c20 hb => ?_)
   ·have X := And.intro c20 X
    refine Tw ?_
    refine bq_if hb rfl (fun c21 hb => ?_) (fun c21 hb => ?_)
    ·have hq := Option.some.inj hb
     subst hq
     try dsimp only at hr18
     have hb := hr18
     have hb := Option.some.inj hb
     subst hb
     have X := And.intro c21 X
     refine Tw ?_
     exact endI rfl
    ·have hb := Option.some.inj hb
     subst hb
     have X := And.intro c21 X
     refine Tw ?_
     exact hX19 _ rfl Cw
   ·have hb := Option.some.inj hb
    subst hb
    have X := And.intro c20 X
    refine Tw ?_
    exact hX19 _ rfl Cw
  ·intro f23 ej Y25
   subst ej
   try dsimp only at hb
   have X := And.intro Y25 X
   refine Tw ?_
   refine bq_if hb rfl (fun c30 hb => ?_) (fun c30 hb => ?_)
   ·have X := And.intro c30 X
    refine Tw ?_
    refine bq_if hb rfl (fun c31 hb => ?_) (fun c31 hb => ?_)
    ·have hb := Option.some.inj hb
     subst hb
     have X := And.intro c31 X
     refine Tw ?_
     exact endI rfl
    ·have hb := Option.some.inj hb
     subst hb
     have X := And.intro c31 X
     refine Tw ?_
     exact endI rfl
   ·have hb := Option.some.inj hb
    subst hb
    have X := And.intro c30 X
    refine Tw ?_
    exact endI rfl
def G_burinref05_escape_L1 (s_6 : Bytes) (from_7 : Bytes) (to_8 : Bytes) : Int → Option ((Int) ⊕ (Ex2 (Int) (Unit))) := fun i_9 =>
 if (decide (i_9 < ((List.length from_7 : Nat) : Int))) then
  idx s_6 (0 : Int) >>= fun x22 =>
  idx from_7 i_9 >>= fun x23 =>
  if ((x22.toNat : Int) == (x23.toNat : Int)) then
   idx to_8 i_9 >>= fun x25 =>
   some (Sum.inr (Ex2.a (IntKind.wrap .i64 (x25.toNat : Int))))
  else
   some (Sum.inl (IntKind.wrap .i64 (i_9 + (1 : Int))))
 else
  some (Sum.inr (Ex2.b ()))
theorem G_burinref05_escape_L1_ok {κ : Kt} {t : Blk κ} {s_6 : Bytes} {from_7 : Bytes} {to_8 : Bytes} {h11 : Heap} (i_9 : Int) (x : Ex2 (Int) (Unit)) (hx : loopO (G_burinref05_escape_L1 s_6 from_7 to_8) i_9 = some x) (hh : True) (ho : True) : ∀ (f10 : Fr), (f10 0 = (.str s_6) ∧ f10 4 = (.str from_7) ∧ f10 5 = (.str to_8) ∧ f10 6 = (.int .i64 i_9)) → (∀ (f27 : Fr) (v26 : Int), Ex2.a v26 = x → (f27 2 = (.int .i64 v26) ∧ f27 3 = (.int .i64 (1 : Int))) → κ.R f27 h11) → (∀ (f32 : Fr), Ex2.b () = x → (f32 0 = (.str s_6)) → κ.B 0 f32 h11) → Lq E (.loop L_burinref05_escape_1) κ t f10 h11 := by
 revert i_9 x
 refine loop1' ?_
 intro i_9 r hb x hn f10  Y12  ex0 ex1
 dsimp only [G_burinref05_escape_L1] at hb
 refine loop_step L_burinref05_escape_1.eq_1 ?_
 have X := Y12
 refine Tw ?_
 refine Tw ?_
 refine bq_if hb rfl (fun c21 hb => ?_) (fun c21 hb => ?_)
 ·have X := And.intro c21 X
  refine Tw ?_
  refine vq_idxS hb (fun x22 hx22 hb => ?_)
  refine Tw ?_
  refine vq_idxS hb (fun x23 hx23 hb => ?_)
  refine Tw ?_
  refine bq_if hb rfl (fun c24 hb => ?_) (fun c24 hb => ?_)
  ·have X := And.intro c24 X
   refine Tw ?_
   refine vq_idxS hb (fun x25 hx25 hb => ?_)
   have hb := Option.some.inj hb
   subst hb
   have hn : _ = _ := hn
   subst hn
   refine Tw ?_
   exact ex0 _ (IntKind.wrap .i64 (x25.toNat : Int)) rfl Cw
  ·have hb := Option.some.inj hb
   subst hb
   have X := And.intro c24 X
   refine Tw ?_
   exact hn _  Cw ex0 ex1
 ·have hb := Option.some.inj hb
  subst hb
  have hn : _ = _ := hn
  subst hn
  have X := And.intro c21 X
  refine Tw ?_
  exact ex1 _ rfl Cw
def G_burinref05_escape_L2 (s_44 : Bytes) : Int × Int → Option ((Int × Int) ⊕ (Int × Int)) := fun (v_45, n_46) =>
 (
  if (decide (n_46 < ((List.length s_44 : Nat) : Int))) then
   idx s_44 n_46 >>= fun x61 =>
   G_burinref05_hex (x61.toNat : Int) >>= fun r62 =>
   if (decide (r62 < (16 : Int))) then
    some (Ex2.b ())
   else
    some (Ex2.a (Sum.inr (v_45, n_46)))
  else
   some (Ex2.a (Sum.inr (v_45, n_46)))
 ) >>= fun j72 => match j72 with
  | .a q => some q
  | .b () =>
   idx s_44 n_46 >>= fun x76 =>
   G_burinref05_hex (x76.toNat : Int) >>= fun r77 =>
   some (Sum.inl ((if (IntKind.wrap .i64 ((IntKind.wrap .i64 ((16 : Int) * v_45)) + r77)) < (256 : Int) then (IntKind.wrap .i64 ((IntKind.wrap .i64 ((16 : Int) * v_45)) + r77)) else (256 : Int)), (IntKind.wrap .i64 (n_46 + (1 : Int)))))
theorem G_burinref05_escape_L2_ok {κ : Kt} {t : Blk κ} {s_44 : Bytes} {h48 : Heap} (v_45 : Int) (n_46 : Int) (x : Int × Int) (hx : loopO (G_burinref05_escape_L2 s_44) (v_45, n_46) = some x) (hh : True) (ho : True) : ∀ (f47 : Fr), (f47 0 = (.str s_44) ∧ f47 7 = (.int .i64 v_45) ∧ f47 8 = (.int .i64 n_46)) → (∀ (f81 : Fr) (v_79 : Int) (n_80 : Int), (v_79, n_80) = x → (f81 7 = (.int .i64 v_79) ∧ f81 8 = (.int .i64 n_80)) → κ.B 2 f81 h48) → Lq E (.loop L_burinref05_escape_2) κ t f47 h48 := by
 revert v_45 n_46 x
 refine loop2' ?_
 intro v_45 n_46 r hb x hn f47  Y49  ex0
 dsimp only [G_burinref05_escape_L2] at hb
 refine loop_step L_burinref05_escape_2.eq_1 ?_
 have X := Y49
 refine Tw ?_
 refine Tw ?_
 refine bnd1 hb (fun j72 hj hb => ?_)
 refine wq_joinF (fun Z => ∀ (f67 : Fr), Ex2.b () = j72 → (f67 0 = (.str s_44) ∧ f67 7 = (.int .i64 v_45) ∧ f67 8 = (.int .i64 n_46)) → Z f67) (fun Z hX59 => ?_) ?_
 ·have hr58 := hb
  clear hb
  have hb := hj
  clear hj
  refine wq_def J_burinref05_escape_1.eq_1 ?_
  refine Tw ?_
  refine Tw ?_
  refine bq_if hb rfl (fun c60 hb => ?_) (fun c60 hb => ?_)
  ·have X := And.intro c60 X
   refine Tw ?_
   refine vq_idxS hb (fun x61 hx61 hb => ?_)
   refine Tw ?_
   refine bnd1 hb (fun r62 h63 hb => ?_)
   refine pq_eq (G_burinref05_hex_ok h63) ?_
   refine Tw ?_
   refine bq_if hb rfl (fun c64 hb => ?_) (fun c64 hb => ?_)
   ·have hb := Option.some.inj hb
    subst hb
    have X := And.intro c64 X
    refine Tw ?_
    exact hX59 _ rfl Cw
   ·have hq := Option.some.inj hb
    subst hq
    try dsimp only at hr58
    have hb := hr58
    have hb := Option.some.inj hb
    subst hb
    have hn : _ = _ := hn
    subst hn
    have X := And.intro c64 X
    refine Tw ?_
    exact ex0 _ v_45 n_46 rfl Cw
  ·have hq := Option.some.inj hb
   subst hq
   try dsimp only at hr58
   have hb := hr58
   have hb := Option.some.inj hb
   subst hb
   have hn : _ = _ := hn
   subst hn
   have X := And.intro c60 X
   refine Tw ?_
   exact ex0 _ v_45 n_46 rfl Cw
 ·intro f67 ej Y69
  subst ej
  try dsimp only at hb
  have X := And.intro Y69 X
  refine Tw ?_
  refine vq_idxS hb (fun x76 hx76 hb => ?_)
  refine Tw ?_
  refine bnd1 hb (fun r77 h78 hb => ?_)
  refine pq_eq (G_burinref05_hex_ok h78) ?_
  have hb := Option.some.inj hb
  subst hb
  refine Tw ?_
  exact hn _  Cw ex0
def G_burinref05_escape_L3 (s_92 : Bytes) : Int × Int → Option ((Int × Int) ⊕ (Int × Int)) := fun (v_93, n_94) =>
 (
  if (decide (n_94 < ((List.length s_92 : Nat) : Int))) then
   if (decide (n_94 < (3 : Int))) then
    idx s_92 n_94 >>= fun x110 =>
    G_burinref05_hex (x110.toNat : Int) >>= fun r111 =>
    if (decide (r111 < (8 : Int))) then
     some (Ex2.b ())
    else
     some (Ex2.a (Sum.inr (v_93, n_94)))
   else
    some (Ex2.a (Sum.inr (v_93, n_94)))
  else
   some (Ex2.a (Sum.inr (v_93, n_94)))
 ) >>= fun j122 => match j122 with
  | .a q => some q
  | .b () =>
   idx s_92 n_94 >>= fun x126 =>
   G_burinref05_hex (x126.toNat : Int) >>= fun r127 =>
   some (Sum.inl ((IntKind.wrap .i64 ((IntKind.wrap .i64 ((8 : Int) * v_93)) + r127)), (IntKind.wrap .i64 (n_94 + (1 : Int)))))
theorem G_burinref05_escape_L3_ok {κ : Kt} {t : Blk κ} {s_92 : Bytes} {h96 : Heap} (v_93 : Int) (n_94 : Int) (x : Int × Int) (hx : loopO (G_burinref05_escape_L3 s_92) (v_93, n_94) = some x) (hh : True) (ho : True) : ∀ (f95 : Fr), (f95 0 = (.str s_92) ∧ f95 7 = (.int .i64 v_93) ∧ f95 8 = (.int .i64 n_94)) → (∀ (f131 : Fr) (v_129 : Int) (n_130 : Int), (v_129, n_130) = x → (f131 7 = (.int .i64 v_129) ∧ f131 8 = (.int .i64 n_130)) → κ.B 4 f131 h96) → Lq E (.loop L_burinref05_escape_3) κ t f95 h96 := by
 revert v_93 n_94 x
 refine loop2' ?_
 intro v_93 n_94 r hb x hn f95  Y97  ex0
 dsimp only [G_burinref05_escape_L3] at hb
 refine loop_step L_burinref05_escape_3.eq_1 ?_
 have X := Y97
 refine Tw ?_
 refine Tw ?_
 refine bnd1 hb (fun j122 hj hb => ?_)
 refine wq_joinF (fun Z => ∀ (f117 : Fr), Ex2.b () = j122 → (f117 0 = (.str s_92) ∧ f117 7 = (.int .i64 v_93) ∧ f117 8 = (.int .i64 n_94)) → Z f117) (fun Z hX107 => ?_) ?_
 ·have hr106 := hb
  clear hb
  have hb := hj
  clear hj
  refine wq_def J_burinref05_escape_2.eq_1 ?_
  refine Tw ?_
  refine Tw ?_
  refine bq_if hb rfl (fun c108 hb => ?_) (fun c108 hb => ?_)
  ·have X := And.intro c108 X
   refine Tw ?_
   refine bq_if hb rfl (fun c109 hb => ?_) (fun c109 hb => ?_)
   ·have X := And.intro c109 X
    refine Tw ?_
    refine vq_idxS hb (fun x110 hx110 hb => ?_)
    refine Tw ?_
    refine bnd1 hb (fun r111 h112 hb => ?_)
    refine pq_eq (G_burinref05_hex_ok h112) ?_
    refine Tw ?_
    refine bq_if hb rfl (fun c113 hb => ?_) (fun c113 hb => ?_)
    ·have hb := Option.some.inj hb
     subst hb
     have X := And.intro c113 X
     refine Tw ?_
     exact hX107 _ rfl Cw
    ·have hq := Option.some.inj hb
     subst hq
     try dsimp only at hr106
     have hb := hr106
     have hb := Option.some.inj hb
     subst hb
     have hn : _ = _ := hn
     subst hn
     have X := And.intro c113 X
     refine Tw ?_
     exact ex0 _ v_93 n_94 rfl Cw
   ·have hq := Option.some.inj hb
    subst hq
    try dsimp only at hr106
    have hb := hr106
    have hb := Option.some.inj hb
    subst hb
    have hn : _ = _ := hn
    subst hn
    have X := And.intro c109 X
    refine Tw ?_
    exact ex0 _ v_93 n_94 rfl Cw
  ·have hq := Option.some.inj hb
   subst hq
   try dsimp only at hr106
   have hb := hr106
   have hb := Option.some.inj hb
   subst hb
   have hn : _ = _ := hn
   subst hn
   have X := And.intro c108 X
   refine Tw ?_
   exact ex0 _ v_93 n_94 rfl Cw
 ·intro f117 ej Y119
  subst ej
  try dsimp only at hb
  have X := And.intro Y119 X
  refine Tw ?_
  refine vq_idxS hb (fun x126 hx126 hb => ?_)
  refine Tw ?_
  refine bnd1 hb (fun r127 h128 hb => ?_)
  refine pq_eq (G_burinref05_hex_ok h128) ?_
  have hb := Option.some.inj hb
  subst hb
  refine Tw ?_
  exact hn _  Cw ex0
def G_burinref05_escape (s_2 : Bytes) : Option (Int × Int) :=
 if (((List.length s_2 : Nat) : Int) == (0 : Int)) then
  some ((0 : Int), (0 : Int))
 else
  loopO (G_burinref05_escape_L1 s_2 ([110, 116, 118, 98, 114, 102, 97, 92, 39, 34, 63] : Bytes) ([10, 9, 11, 8, 13, 12, 7, 92, 39, 34, 63] : Bytes)) (0 : Int) >>= fun q37 => match q37 with
   | .a v26 =>
    some (v26, (1 : Int))
   | .b _ =>
    idx s_2 (0 : Int) >>= fun x42 =>
    if ((x42.toNat : Int) == (120 : Int)) then
     loopO (G_burinref05_escape_L2 s_2) ((0 : Int), (1 : Int)) >>= fun (v_79, n_80) =>
     if (n_80 == (1 : Int)) then
      some ((0 : Int), (0 : Int))
     else
      if (decide ((255 : Int) < v_79)) then
       some ((0 : Int), (0 : Int))
      else
       some (v_79, n_80)
    else
     loopO (G_burinref05_escape_L3 s_2) ((0 : Int), (0 : Int)) >>= fun (v_129, n_130) =>
     if (decide ((255 : Int) < v_129)) then
      some ((0 : Int), (0 : Int))
     else
      some (v_129, n_130)
theorem G_burinref05_escape_ok {s_2 : Bytes} {r3 : Int} {r4 : Int} (hx : G_burinref05_escape s_2 = some (r3, r4)) : PureE E 83 [(.str s_2)] (fun v => v = (.tuple [(.int .i64 r3), (.int .i64 r4)])) := by
 refine pureE_ok fn_burinref05_escape rfl ?_
 have hb := hx
 dsimp only [G_burinref05_escape] at hb
 have X := True.intro
 refine Tw ?_
 refine bq_if hb rfl (fun c5 hb => ?_) (fun c5 hb => ?_)
 ·have hb := Option.some.inj hb
  obtain ⟨e0, e1⟩ := Prod.mk.inj hb
  subst e0
  subst e1
  have X := And.intro c5 X
  refine Tw ?_
  exact endI rfl
 ·have X := And.intro c5 X
  refine Tw ?_
  refine bnd1 hb (fun q37 h38 hb => ?_)
  refine G_burinref05_escape_L1_ok _ _ h38 trivial trivial _ Cw ?_ ?_
  ·intro f27 v26 ex Y29
   subst ex
   try dsimp only at hb
   have hb := Option.some.inj hb
   obtain ⟨e0, e1⟩ := Prod.mk.inj hb
   subst e0
   subst e1
   have X := And.intro Y29 X
   refine Tw ?_
   exact endI rfl
  ·intro f32 ex Y34
   subst ex
   try dsimp only at hb
   have X := And.intro Y34 X
   refine Tw ?_
   refine vq_idxS hb (fun x42 hx42 hb => ?_)
   refine Tw ?_
   refine bq_if hb rfl (fun c43 hb => ?_) (fun c43 hb => ?_)
   ·have X := And.intro c43 X
    refine Tw ?_
    refine bnd1 hb (fun q86 h87 hb => ?_)
    refine G_burinref05_escape_L2_ok _ _ _ h87 trivial trivial _ Cw ?_
    ·intro f81 v_79 n_80 ex Y83
     subst ex
     try dsimp only at hb
     have X := And.intro Y83 X
     refine Tw ?_
     refine bq_if hb rfl (fun c90 hb => ?_) (fun c90 hb => ?_)
     ·have hb := Option.some.inj hb
      obtain ⟨e0, e1⟩ := Prod.mk.inj hb
      subst e0
      subst e1
      have X := And.intro c90 X
      refine Tw ?_
      exact endI rfl
     ·have X := And.intro c90 X
      refine Tw ?_
      refine bq_if hb rfl (fun c91 hb => ?_) (fun c91 hb => ?_)
      ·have hb := Option.some.inj hb
       obtain ⟨e0, e1⟩ := Prod.mk.inj hb
       subst e0
       subst e1
       have X := And.intro c91 X
       refine Tw ?_
       exact endI rfl
      ·have hb := Option.some.inj hb
       obtain ⟨e0, e1⟩ := Prod.mk.inj hb
       subst e0
       subst e1
       have X := And.intro c91 X
       refine Tw ?_
       exact endI rfl
   ·have X := And.intro c43 X
    refine Tw ?_
    refine bnd1 hb (fun q136 h137 hb => ?_)
    refine G_burinref05_escape_L3_ok _ _ _ h137 trivial trivial _ Cw ?_
    ·intro f131 v_129 n_130 ex Y133
     subst ex
     try dsimp only at hb
     have X := And.intro Y133 X
     refine Tw ?_
     refine bq_if hb rfl (fun c140 hb => ?_) (fun c140 hb => ?_)
     ·have hb := Option.some.inj hb
      obtain ⟨e0, e1⟩ := Prod.mk.inj hb
      subst e0
      subst e1
      have X := And.intro c140 X
      refine Tw ?_
      exact endI rfl
     ·have hb := Option.some.inj hb
      obtain ⟨e0, e1⟩ := Prod.mk.inj hb
      subst e0
      subst e1
      have X := And.intro c140 X
      refine Tw ?_
      exact endI rfl
def G_burinref05_Bytes_L1 (s_9 : Bytes) : List UInt8 × Int → Option ((List UInt8 × Int) ⊕ (Ex2 (List UInt8) (List UInt8))) := fun (out_10, i_15) =>
 if (decide (i_15 < ((List.length s_9 : Nat) : Int))) then
  idx s_9 i_15 >>= fun x28 =>
  if (!((x28.toNat : Int) == (92 : Int))) then
   idx s_9 i_15 >>= fun x30 =>
   app 1 out_10 [x30] >>= fun t32 =>
   some (Sum.inl (t32, (IntKind.wrap .i64 (i_15 + (1 : Int)))))
  else
   subF s_9 (IntKind.wrap .i64 (i_15 + (1 : Int))) >>= fun t41 =>
   G_burinref05_escape t41 >>= fun (r42, r43) =>
   if (r43 == (0 : Int)) then
    some (Sum.inr (Ex2.a ([] : List UInt8)))
   else
    b8 (IntKind.wrap .u8 r42) >>= fun c46 =>
    app 1 out_10 [c46] >>= fun t48 =>
    some (Sum.inl (t48, (IntKind.wrap .i64 ((IntKind.wrap .i64 (i_15 + r43)) + (1 : Int)))))
 else
  some (Sum.inr (Ex2.b out_10))
theorem G_burinref05_Bytes_L1_ok {κ : Kt} {t : Blk κ} {s_9 : Bytes} (out_10 : List UInt8) (i_15 : Int) (x : Ex2 (List UInt8) (List UInt8)) (hx : loopO (G_burinref05_Bytes_L1 s_9) (out_10, i_15) = some x) : ∀ (f16 : Fr) (h17 : Heap) (o11 : Own) (e12 : Nat) (M13 : List (List PV)), (f16 0 = (.str s_9) ∧ f16 4 = (.slice o11 e12 M13) ∧ f16 5 = (.int .i64 i_15)) → (OwnOK h17 o11) → (True) → SlR 1 R8 o11 e12 out_10 M13 → (∀ (f62 : Fr) (h63 : Heap) (v57 : List UInt8) (o58 : Own) (e59 : Nat) (M60 : List (List PV)), Ex2.a v57 = x → (f62 2 = (.slice o58 e59 M60) ∧ f62 3 = (.bool false) ∧ OwnOK h63 o58) → (True) → SlR 1 R8 o58 e59 v57 M60 → κ.R f62 h63) → (∀ (f73 : Fr) (h74 : Heap) (out_68 : List UInt8) (o69 : Own) (e70 : Nat) (M71 : List (List PV)), Ex2.b out_68 = x → (f73 4 = (.slice o69 e70 M71) ∧ OwnOK h74 o69) → (True) → SlR 1 R8 o69 e70 out_68 M71 → κ.B 0 f73 h74) → Lq E (.loop L_burinref05_Bytes_1) κ t f16 h17 := by
 revert out_10 i_15 x
 refine loop2' ?_
 intro out_10 i_15 r hb x hn f16 h17 o11 e12 M13 Y18 Y19 Y20 s14 ex0 ex1
 dsimp only [G_burinref05_Bytes_L1] at hb
 refine loop_step L_burinref05_Bytes_1.eq_1 ?_
 have X := And.intro Y18 (And.intro Y19 (s14.len))
 refine Tw ?_
 refine Tw ?_
 refine bq_if hb rfl (fun c27 hb => ?_) (fun c27 hb => ?_)
 ·have X := And.intro c27 X
  refine Tw ?_
  refine vq_idxS hb (fun x28 hx28 hb => ?_)
  refine Tw ?_
  refine bq_if hb rfl (fun c29 hb => ?_) (fun c29 hb => ?_)
  ·have X := And.intro c29 X
   refine Tw ?_
   refine vq_idxS hb (fun x30 hx30 hb => ?_)
   refine Tw ?_
   refine vq_bsl rfl ?_
   refine Tw ?_
   refine vq_app s14 Cw (show SlR 1 R8 (.own h17.n false) 1 ([x30] : List UInt8) [[(.int .u8 (x30.toNat : Int))]] from (slr_cons (by simp) rfl (slr_0 (R := R8)))) hb (fun t32 o33 M34 h35 ht32 hb s36 O37 F38 => ?_)
   have q39 := F38.n
   try simp only [HN] at q39
   have hb := Option.some.inj hb
   subst hb
   have X := And.intro F38.box (And.intro F38.loop (And.intro F38.bty (And.intro O37 (And.intro s36.len X))))
   refine Tw ?_
   exact hn _ _ o33 1 M34 Cw Cw trivial s36 ex0 ex1
  ·have X := And.intro c29 X
   refine Tw ?_
   refine vq_subFs hb (fun t41 ht41 hb => ?_)
   refine Tw ?_
   refine bnd2 hb (fun r42 r43 h44 hb => ?_)
   try dsimp only at hb
   refine pq_eq (G_burinref05_escape_ok h44) ?_
   refine Tw ?_
   refine bq_if hb rfl (fun c45 hb => ?_) (fun c45 hb => ?_)
   ·have hb := Option.some.inj hb
    subst hb
    have hn : _ = _ := hn
    subst hn
    have X := And.intro c45 X
    refine Tw ?_
    exact ex0 _ _ ([] : List UInt8) .nil 0 [] rfl Cw trivial (slr_nil (R := R8))
   ·refine b8b1 hb (fun c46 hc46 ec46 hb => ?_)
    have X := And.intro c45 X
    refine Tw ?_
    refine vq_bsl rfl ?_
    refine Tw ?_
    refine vq_app s14 Cw (show SlR 1 R8 (.own h17.n false) 1 ([c46] : List UInt8) [[(.int .u8 (IntKind.wrap .u8 r42))]] from (slr_cons (by simp) (r8_of hc46) (slr_0 (R := R8)))) hb (fun t48 o49 M50 h51 ht48 hb s52 O53 F54 => ?_)
    have q55 := F54.n
    try simp only [HN] at q55
    have hb := Option.some.inj hb
    subst hb
    have X := And.intro F54.box (And.intro F54.loop (And.intro F54.bty (And.intro O53 (And.intro s52.len X))))
    refine Tw ?_
    exact hn _ _ o49 1 M50 Cw Cw trivial s52 ex0 ex1
 ·have hb := Option.some.inj hb
  subst hb
  have hn : _ = _ := hn
  subst hn
  have X := And.intro c27 X
  refine Tw ?_
  exact ex1 _ _ out_10 o11 e12 M13 rfl Cw trivial s14
def G_burinref05_Bytes (s_2 : Bytes) : Option (List UInt8 × Bool) :=
 loopO (G_burinref05_Bytes_L1 s_2) (([] : List UInt8), (0 : Int)) >>= fun q79 => match q79 with
  | .a v57 =>
   some (v57, false)
  | .b out_68 =>
   some (out_68, true)
theorem G_burinref05_Bytes_ok {s_2 : Bytes} {r3 : List UInt8} {r4 : Bool} (hx : G_burinref05_Bytes s_2 = some (r3, r4)) : PureE E 57 [(.str s_2)] (fun v => ∃ o5 e6 M7, v = (.tuple [(.slice o5 e6 M7), (.bool r4)]) ∧ SlR 1 R8 o5 e6 r3 M7) := by
 refine pureE_ok fn_burinref05_Bytes rfl ?_
 have hb := hx
 dsimp only [G_burinref05_Bytes] at hb
 have X := True.intro
 refine Tw ?_
 refine bnd1 hb (fun q79 h80 hb => ?_)
 refine G_burinref05_Bytes_L1_ok _ _ _ h80 _ _ .nil 0 [] Cw Cw trivial (slr_nil (R := R8)) ?_ ?_
 ·intro f62 h63 v57 o58 e59 M60 ex Y64 Y66 s61
  subst ex
  try dsimp only at hb
  have hb := Option.some.inj hb
  obtain ⟨e0, e1⟩ := Prod.mk.inj hb
  subst e0
  subst e1
  have X := And.intro Y64 (And.intro s61.len X)
  refine Tw ?_
  exact endI ⟨(stO o58), e59, M60, rfl, s61.st⟩
 ·intro f73 h74 out_68 o69 e70 M71 ex Y75 Y77 s72
  subst ex
  try dsimp only at hb
  have hb := Option.some.inj hb
  obtain ⟨e0, e1⟩ := Prod.mk.inj hb
  subst e0
  subst e1
  have X := And.intro Y75 (And.intro s72.len X)
  refine Tw ?_
  exact endI ⟨(stO o69), e70, M71, rfl, s72.st⟩
def G_burinref07_inner (s_2 : Bytes) : Option (Bytes × Bool) :=
 G_burinref02_One s_2 >>= fun (r5, r6) =>
 (
  if (!r6) then
   some (Ex2.a (([] : Bytes), false))
  else
   if (!(r5.Kind_ == (4 : Int))) then
    some (Ex2.a (([] : Bytes), false))
   else
    some (Ex2.b ())
 ) >>= fun j24 => match j24 with
  | .a q => some q
  | .b () =>
   subB s_2 (1 : Int) (IntKind.wrap .i64 (((List.length s_2 : Nat) : Int) - (1 : Int))) >>= fun t26 =>
   G_burinref05_Bytes t26 >>= fun (r27, r32) =>
   some (r27, r32)
theorem G_burinref07_inner_ok {s_2 : Bytes} {r3 : Bytes} {r4 : Bool} (hx : G_burinref07_inner s_2 = some (r3, r4)) : PureE E 36 [(.str s_2)] (fun v => v = (.tuple [(.str r3), (.bool r4)])) := by
 refine pureE_ok fn_burinref07_inner rfl ?_
 have hb := hx
 dsimp only [G_burinref07_inner] at hb
 have X := True.intro
 refine Tw ?_
 refine bnd2 hb (fun r5 r6 h7 hb => ?_)
 try dsimp only at hb
 refine pq_eq (G_burinref02_One_ok h7) ?_
 refine Tw ?_
 refine bnd1 hb (fun j24 hj hb => ?_)
 refine wq_join (fun Z => ∀ (f18 : Fr) (h19 : Heap), Ex2.b () = j24 → (f18 0 = (.str s_2)) → (True) → Z f18 h19) (fun Z hX13 => ?_) ?_
 ·have hr12 := hb
  clear hb
  have hb := hj
  clear hj
  refine wq_def J_burinref07_inner_1.eq_1 ?_
  refine Tw ?_
  refine Tw ?_
  refine bq_if hb rfl (fun c14 hb => ?_) (fun c14 hb => ?_)
  ·have hq := Option.some.inj hb
   subst hq
   try dsimp only at hr12
   have hb := hr12
   have hb := Option.some.inj hb
   obtain ⟨e0, e1⟩ := Prod.mk.inj hb
   subst e0
   subst e1
   have X := And.intro c14 X
   refine Tw ?_
   exact endI rfl
  ·have X := And.intro c14 X
   refine Tw ?_
   refine bq_if hb rfl (fun c16 hb => ?_) (fun c16 hb => ?_)
   ·have hq := Option.some.inj hb
    subst hq
    try dsimp only at hr12
    have hb := hr12
    have hb := Option.some.inj hb
    obtain ⟨e0, e1⟩ := Prod.mk.inj hb
    subst e0
    subst e1
    have X := And.intro c16 X
    refine Tw ?_
    exact endI rfl
   ·have hb := Option.some.inj hb
    subst hb
    have X := And.intro c16 X
    refine Tw ?_
    exact hX13 _ _ rfl Cw trivial
 ·intro f18 h19 ej Y20 Y22
  subst ej
  try dsimp only at hb
  have X := And.intro Y20 X
  refine Tw ?_
  refine vq_subBs hb (fun t26 ht26 hb => ?_)
  refine Tw ?_
  refine bnd2 hb (fun r27 r32 h33 hb => ?_)
  try dsimp only at hb
  refine pq_in1 (G_burinref05_Bytes_ok h33) (fun o28 e29 M30 s31 => ?_)
  have X := And.intro s31.len X
  refine Tw ?_
  refine vq_b2s s31 ?_
  have hb := Option.some.inj hb
  obtain ⟨e0, e1⟩ := Prod.mk.inj hb
  subst e0
  subst e1
  refine Tw ?_
  exact endI rfl
def G_burinref07_IsKey_L1 (s_4 : Bytes) : Int × Int → Option ((Int × Int) ⊕ (Ex2 (Unit) (Unit))) := fun (from_5, i_6) =>
 if (decide (i_6 < (97 : Int))) then
  idx ([99, 104, 97, 114, 32, 115, 104, 111, 114, 116, 32, 105, 110, 116, 32, 108, 111, 110, 103, 32, 115, 105, 103, 110, 101, 100, 32, 117, 110, 115, 105, 103, 110, 101, 100, 32, 118, 111, 105, 100, 32, 105, 102, 32, 101, 108, 115, 101, 32, 119, 104, 105, 108, 101, 32, 114, 101, 116, 117, 114, 110, 32, 98, 114, 101, 97, 107, 32, 99, 111, 110, 116, 105, 110, 117, 101, 32, 115, 116, 114, 117, 99, 116, 32, 117, 110, 105, 111, 110, 32, 101, 120, 116, 101, 114, 110, 32] : Bytes) i_6 >>= fun x18 =>
  if ((x18.toNat : Int) == (32 : Int)) then
   subB ([99, 104, 97, 114, 32, 115, 104, 111, 114, 116, 32, 105, 110, 116, 32, 108, 111, 110, 103, 32, 115, 105, 103, 110, 101, 100, 32, 117, 110, 115, 105, 103, 110, 101, 100, 32, 118, 111, 105, 100, 32, 105, 102, 32, 101, 108, 115, 101, 32, 119, 104, 105, 108, 101, 32, 114, 101, 116, 117, 114, 110, 32, 98, 114, 101, 97, 107, 32, 99, 111, 110, 116, 105, 110, 117, 101, 32, 115, 116, 114, 117, 99, 116, 32, 117, 110, 105, 111, 110, 32, 101, 120, 116, 101, 114, 110, 32] : Bytes) from_5 i_6 >>= fun t20 =>
   if (t20 == s_4) then
    some (Sum.inr (Ex2.a ()))
   else
    some (Sum.inl ((IntKind.wrap .i64 (i_6 + (1 : Int))), (IntKind.wrap .i64 (i_6 + (1 : Int)))))
  else
   some (Sum.inl (from_5, (IntKind.wrap .i64 (i_6 + (1 : Int)))))
 else
  some (Sum.inr (Ex2.b ()))
theorem G_burinref07_IsKey_L1_ok {κ : Kt} {t : Blk κ} {s_4 : Bytes} {h8 : Heap} (from_5 : Int) (i_6 : Int) (x : Ex2 (Unit) (Unit)) (hx : loopO (G_burinref07_IsKey_L1 s_4) (from_5, i_6) = some x) (hh : True) (ho : True) : ∀ (f7 : Fr), (f7 0 = (.str s_4) ∧ f7 3 = (.int .i64 from_5) ∧ f7 4 = (.int .i64 i_6)) → (∀ (f22 : Fr), Ex2.a () = x → (f22 2 = (.bool true)) → κ.R f22 h8) → (∀ (f27 : Fr), Ex2.b () = x → (True) → κ.B 0 f27 h8) → Lq E (.loop L_burinref07_IsKey_1) κ t f7 h8 := by
 revert from_5 i_6 x
 refine loop2' ?_
 intro from_5 i_6 r hb x hn f7  Y9  ex0 ex1
 dsimp only [G_burinref07_IsKey_L1] at hb
 refine loop_step L_burinref07_IsKey_1.eq_1 ?_
 have X := Y9
 refine Tw ?_
 refine Tw ?_
 refine bq_if hb rfl (fun c17 hb => ?_) (fun c17 hb => ?_)
 ·have X := And.intro c17 X
  refine Tw ?_
  refine vq_idxS hb (fun x18 hx18 hb => ?_)
  refine Tw ?_
  refine bq_if hb rfl (fun c19 hb => ?_) (fun c19 hb => ?_)
  ·have X := And.intro c19 X
   refine Tw ?_
   refine vq_subBs hb (fun t20 ht20 hb => ?_)
   refine Tw ?_
   refine bq_if hb rfl (fun c21 hb => ?_) (fun c21 hb => ?_)
   ·have hb := Option.some.inj hb
    subst hb
    have hn : _ = _ := hn
    subst hn
    have X := And.intro c21 X
    refine Tw ?_
    exact ex0 _ rfl Cw
   ·have hb := Option.some.inj hb
    subst hb
    have X := And.intro c21 X
    refine Tw ?_
    exact hn _  Cw ex0 ex1
  ·have hb := Option.some.inj hb
   subst hb
   have X := And.intro c19 X
   refine Tw ?_
   exact hn _  Cw ex0 ex1
 ·have hb := Option.some.inj hb
  subst hb
  have hn : _ = _ := hn
  subst hn
  have X := And.intro c17 X
  refine Tw ?_
  exact ex1 _ rfl trivial
def G_burinref07_IsKey (s_2 : Bytes) : Option (Bool) :=
 loopO (G_burinref07_IsKey_L1 s_2) ((0 : Int), (0 : Int)) >>= fun q32 => match q32 with
  | .a _ =>
   some true
  | .b _ =>
   some false
theorem G_burinref07_IsKey_ok {s_2 : Bytes} {r3 : Bool} (hx : G_burinref07_IsKey s_2 = some r3) : PureE E 20 [(.str s_2)] (fun v => v = (.bool r3)) := by
 refine pureE_ok fn_burinref07_IsKey rfl ?_
 have hb := hx
 dsimp only [G_burinref07_IsKey] at hb
 have X := True.intro
 refine Tw ?_
 refine bnd1 hb (fun q32 h33 hb => ?_)
 refine G_burinref07_IsKey_L1_ok _ _ _ h33 trivial trivial _ Cw ?_ ?_
 ·intro f22 ex Y24
  subst ex
  try dsimp only at hb
  have hb := Option.some.inj hb
  subst hb
  have X := And.intro Y24 X
  refine Tw ?_
  exact endI rfl
 ·intro f27 ex Y29
  subst ex
  try dsimp only at hb
  have hb := Option.some.inj hb
  subst hb
  refine Tw ?_
  exact endI rfl
def G_burinref05_base (s_2 : Bytes) : Option (Int × Int) :=
 if (decide ((1 : Int) < ((List.length s_2 : Nat) : Int))) then
  idx s_2 (0 : Int) >>= fun x6 =>
  if ((x6.toNat : Int) == (48 : Int)) then
   idx s_2 (1 : Int) >>= fun x8 =>
   if ((x8.toNat : Int) == (120 : Int)) then
    some ((16 : Int), (2 : Int))
   else
    idx s_2 (1 : Int) >>= fun x10 =>
    if ((x10.toNat : Int) == (88 : Int)) then
     some ((16 : Int), (2 : Int))
    else
     idx s_2 (0 : Int) >>= fun x12 =>
     if ((x12.toNat : Int) == (48 : Int)) then
      some ((8 : Int), (0 : Int))
     else
      some ((10 : Int), (0 : Int))
  else
   idx s_2 (0 : Int) >>= fun x14 =>
   if ((x14.toNat : Int) == (48 : Int)) then
    some ((8 : Int), (0 : Int))
   else
    some ((10 : Int), (0 : Int))
 else
  idx s_2 (0 : Int) >>= fun x16 =>
  if ((x16.toNat : Int) == (48 : Int)) then
   some ((8 : Int), (0 : Int))
  else
   some ((10 : Int), (0 : Int))
theorem G_burinref05_base_ok {s_2 : Bytes} {r3 : Int} {r4 : Int} (hx : G_burinref05_base s_2 = some (r3, r4)) : PureE E 123 [(.str s_2)] (fun v => v = (.tuple [(.int .u64 r3), (.int .i64 r4)])) := by
 refine pureE_ok fn_burinref05_base rfl ?_
 have hb := hx
 dsimp only [G_burinref05_base] at hb
 have X := True.intro
 refine Tw ?_
 refine bq_if hb rfl (fun c5 hb => ?_) (fun c5 hb => ?_)
 ·have X := And.intro c5 X
  refine Tw ?_
  refine vq_idxS hb (fun x6 hx6 hb => ?_)
  refine Tw ?_
  refine bq_if hb rfl (fun c7 hb => ?_) (fun c7 hb => ?_)
  ·have X := And.intro c7 X
   refine Tw ?_
   refine vq_idxS hb (fun x8 hx8 hb => ?_)
   refine Tw ?_
   refine bq_if hb rfl (fun c9 hb => ?_) (fun c9 hb => ?_)
   ·have hb := Option.some.inj hb
    obtain ⟨e0, e1⟩ := Prod.mk.inj hb
    subst e0
    subst e1
    have X := And.intro c9 X
    refine Tw ?_
    exact endI rfl
   ·have X := And.intro c9 X
    refine Tw ?_
    refine vq_idxS hb (fun x10 hx10 hb => ?_)
    refine Tw ?_
    refine bq_if hb rfl (fun c11 hb => ?_) (fun c11 hb => ?_)
    ·have hb := Option.some.inj hb
     obtain ⟨e0, e1⟩ := Prod.mk.inj hb
     subst e0
     subst e1
     have X := And.intro c11 X
     refine Tw ?_
     exact endI rfl
    ·have X := And.intro c11 X
     refine Tw ?_
     refine vq_idxS hb (fun x12 hx12 hb => ?_)
     refine Tw ?_
     refine bq_if hb rfl (fun c13 hb => ?_) (fun c13 hb => ?_)
     ·have hb := Option.some.inj hb
      obtain ⟨e0, e1⟩ := Prod.mk.inj hb
      subst e0
      subst e1
      have X := And.intro c13 X
      refine Tw ?_
      exact endI rfl
     ·have hb := Option.some.inj hb
      obtain ⟨e0, e1⟩ := Prod.mk.inj hb
      subst e0
      subst e1
      have X := And.intro c13 X
      refine Tw ?_
      exact endI rfl
  ·have X := And.intro c7 X
   refine Tw ?_
   refine vq_idxS hb (fun x14 hx14 hb => ?_)
   refine Tw ?_
   refine bq_if hb rfl (fun c15 hb => ?_) (fun c15 hb => ?_)
   ·have hb := Option.some.inj hb
    obtain ⟨e0, e1⟩ := Prod.mk.inj hb
    subst e0
    subst e1
    have X := And.intro c15 X
    refine Tw ?_
    exact endI rfl
   ·have hb := Option.some.inj hb
    obtain ⟨e0, e1⟩ := Prod.mk.inj hb
    subst e0
    subst e1
    have X := And.intro c15 X
    refine Tw ?_
    exact endI rfl
 ·have X := And.intro c5 X
  refine Tw ?_
  refine vq_idxS hb (fun x16 hx16 hb => ?_)
  refine Tw ?_
  refine bq_if hb rfl (fun c17 hb => ?_) (fun c17 hb => ?_)
  ·have hb := Option.some.inj hb
   obtain ⟨e0, e1⟩ := Prod.mk.inj hb
   subst e0
   subst e1
   have X := And.intro c17 X
   refine Tw ?_
   exact endI rfl
  ·have hb := Option.some.inj hb
   obtain ⟨e0, e1⟩ := Prod.mk.inj hb
   subst e0
   subst e1
   have X := And.intro c17 X
   refine Tw ?_
   exact endI rfl
def G_burinref05_suffix_L1 (s_5 : Bytes) : Int × Int × Int → Option ((Int × Int × Int) ⊕ (Ex2 (Unit) (Int × Int))) := fun (u_6, l_7, i_8) =>
 if (decide (i_8 < ((List.length s_5 : Nat) : Int))) then
  (
   idx s_5 i_8 >>= fun x24 =>
   if ((x24.toNat : Int) == (117 : Int)) then
    some (Ex2.a (Sum.inl ((IntKind.wrap .i64 (u_6 + (1 : Int))), l_7, (IntKind.wrap .i64 (i_8 + (1 : Int))))))
   else
    idx s_5 i_8 >>= fun x27 =>
    if ((x27.toNat : Int) == (85 : Int)) then
     some (Ex2.a (Sum.inl ((IntKind.wrap .i64 (u_6 + (1 : Int))), l_7, (IntKind.wrap .i64 (i_8 + (1 : Int))))))
    else
     some (Ex2.b ())
  ) >>= fun j35 => match j35 with
   | .a q => some q
   | .b () =>
    idx s_5 i_8 >>= fun x40 =>
    if (!((x40.toNat : Int) == (108 : Int))) then
     idx s_5 i_8 >>= fun x42 =>
     if (!((x42.toNat : Int) == (76 : Int))) then
      some (Sum.inr (Ex2.a ()))
     else
      if (decide ((0 : Int) < l_7)) then
       idx s_5 (IntKind.wrap .i64 (i_8 - (1 : Int))) >>= fun x45 =>
       idx s_5 i_8 >>= fun x46 =>
       if (!((x45.toNat : Int) == (x46.toNat : Int))) then
        some (Sum.inr (Ex2.a ()))
       else
        some (Sum.inl (u_6, (IntKind.wrap .i64 (l_7 + (1 : Int))), (IntKind.wrap .i64 (i_8 + (1 : Int)))))
      else
       some (Sum.inl (u_6, (IntKind.wrap .i64 (l_7 + (1 : Int))), (IntKind.wrap .i64 (i_8 + (1 : Int)))))
    else
     if (decide ((0 : Int) < l_7)) then
      idx s_5 (IntKind.wrap .i64 (i_8 - (1 : Int))) >>= fun x49 =>
      idx s_5 i_8 >>= fun x50 =>
      if (!((x49.toNat : Int) == (x50.toNat : Int))) then
       some (Sum.inr (Ex2.a ()))
      else
       some (Sum.inl (u_6, (IntKind.wrap .i64 (l_7 + (1 : Int))), (IntKind.wrap .i64 (i_8 + (1 : Int)))))
     else
      some (Sum.inl (u_6, (IntKind.wrap .i64 (l_7 + (1 : Int))), (IntKind.wrap .i64 (i_8 + (1 : Int)))))
 else
  some (Sum.inr (Ex2.b (u_6, l_7)))
theorem G_burinref05_suffix_L1_ok {κ : Kt} {t : Blk κ} {s_5 : Bytes} {h10 : Heap} (u_6 : Int) (l_7 : Int) (i_8 : Int) (x : Ex2 (Unit) (Int × Int)) (hx : loopO (G_burinref05_suffix_L1 s_5) (u_6, l_7, i_8) = some x) (hh : True) (ho : True) : ∀ (f9 : Fr), (f9 0 = (.str s_5) ∧ f9 4 = (.int .i64 u_6) ∧ f9 5 = (.int .i64 l_7) ∧ f9 6 = (.int .i64 i_8)) → (∀ (f52 : Fr), Ex2.a () = x → (f52 2 = (.bool false) ∧ f52 3 = (.bool false)) → κ.R f52 h10) → (∀ (f59 : Fr) (u_57 : Int) (l_58 : Int), Ex2.b (u_57, l_58) = x → (f59 4 = (.int .i64 u_57) ∧ f59 5 = (.int .i64 l_58)) → κ.B 0 f59 h10) → Lq E (.loop L_burinref05_suffix_1) κ t f9 h10 := by
 revert u_6 l_7 i_8 x
 refine loop3' ?_
 intro u_6 l_7 i_8 r hb x hn f9  Y11  ex0 ex1
 dsimp only [G_burinref05_suffix_L1] at hb
 refine loop_step L_burinref05_suffix_1.eq_1 ?_
 have X := Y11
 refine Tw ?_
 refine Tw ?_
 refine bq_if hb rfl (fun c20 hb => ?_) (fun c20 hb => ?_)
 ·have X := And.intro c20 X
  refine Tw ?_
  refine bnd1 hb (fun j35 hj hb => ?_)
  refine wq_joinF (fun Z => ∀ (f30 : Fr), Ex2.b () = j35 → (f30 0 = (.str s_5) ∧ f30 4 = (.int .i64 u_6) ∧ f30 5 = (.int .i64 l_7) ∧ f30 6 = (.int .i64 i_8)) → Z f30) (fun Z hX23 => ?_) ?_
  ·have hr22 := hb
   clear hb
   have hb := hj
   clear hj
   refine wq_def J_burinref05_suffix_1.eq_1 ?_
   refine Tw ?_
   refine Tw ?_
   refine vq_idxS hb (fun x24 hx24 hb => ?_)
   refine Tw ?_
   refine bq_if hb rfl (fun c25 hb => ?_) (fun c25 hb => ?_)
   ·have hq := Option.some.inj hb
    subst hq
    try dsimp only at hr22
    have hb := hr22
    have hb := Option.some.inj hb
    subst hb
    have X := And.intro c25 X
    refine Tw ?_
    exact hn _  Cw ex0 ex1
   ·have X := And.intro c25 X
    refine Tw ?_
    refine vq_idxS hb (fun x27 hx27 hb => ?_)
    refine Tw ?_
    refine bq_if hb rfl (fun c28 hb => ?_) (fun c28 hb => ?_)
    ·have hq := Option.some.inj hb
     subst hq
     try dsimp only at hr22
     have hb := hr22
     have hb := Option.some.inj hb
     subst hb
     have X := And.intro c28 X
     refine Tw ?_
     exact hn _  Cw ex0 ex1
    ·have hb := Option.some.inj hb
     subst hb
     have X := And.intro c28 X
     refine Tw ?_
     exact hX23 _ rfl Cw
  ·intro f30 ej Y32
   subst ej
   try dsimp only at hb
   have X := And.intro Y32 X
   refine Tw ?_
   refine vq_idxS hb (fun x40 hx40 hb => ?_)
   refine Tw ?_
   refine bq_if hb rfl (fun c41 hb => ?_) (fun c41 hb => ?_)
   ·have X := And.intro c41 X
    refine Tw ?_
    refine vq_idxS hb (fun x42 hx42 hb => ?_)
    refine Tw ?_
    refine bq_if hb rfl (fun c43 hb => ?_) (fun c43 hb => ?_)
    ·have hb := Option.some.inj hb
     subst hb
     have hn : _ = _ := hn
     subst hn
     have X := And.intro c43 X
     refine Tw ?_
     exact ex0 _ rfl Cw
    ·have X := And.intro c43 X
     refine Tw ?_
     refine bq_if hb rfl (fun c44 hb => ?_) (fun c44 hb => ?_)
     ·have X := And.intro c44 X
      refine Tw ?_
      refine vq_idxS hb (fun x45 hx45 hb => ?_)
      refine Tw ?_
      refine vq_idxS hb (fun x46 hx46 hb => ?_)
      refine Tw ?_
      refine bq_if hb rfl (fun c47 hb => ?_) (fun c47 hb => ?_)
      ·have hb := Option.some.inj hb
       subst hb
       have hn : _ = _ := hn
       subst hn
       have X := And.intro c47 X
       refine Tw ?_
       exact ex0 _ rfl Cw
      ·have hb := Option.some.inj hb
       subst hb
       have X := And.intro c47 X
       refine Tw ?_
       exact hn _  Cw ex0 ex1
     ·have hb := Option.some.inj hb
      subst hb
      have X := And.intro c44 X
      refine Tw ?_
      exact hn _  Cw ex0 ex1
   ·have X := And.intro c41 X
    refine Tw ?_
    refine bq_if hb rfl (fun c48 hb => ?_) (fun c48 hb => ?_)
    ·have X := And.intro c48 X
     refine Tw ?_
     refine vq_idxS hb (fun x49 hx49 hb => ?_)
     refine Tw ?_
     refine vq_idxS hb (fun x50 hx50 hb => ?_)
     refine Tw ?_
     refine bq_if hb rfl (fun c51 hb => ?_) (fun c51 hb => ?_)
     ·have hb := Option.some.inj hb
      subst hb
      have hn : _ = _ := hn
      subst hn
      have X := And.intro c51 X
      refine Tw ?_
      exact ex0 _ rfl Cw
     ·have hb := Option.some.inj hb
      subst hb
      have X := And.intro c51 X
      refine Tw ?_
      exact hn _  Cw ex0 ex1
    ·have hb := Option.some.inj hb
     subst hb
     have X := And.intro c48 X
     refine Tw ?_
     exact hn _  Cw ex0 ex1
 ·have hb := Option.some.inj hb
  subst hb
  have hn : _ = _ := hn
  subst hn
  have X := And.intro c20 X
  refine Tw ?_
  exact ex1 _ u_6 l_7 rfl Cw
def G_burinref05_suffix (s_2 : Bytes) : Option (Bool × Bool) :=
 loopO (G_burinref05_suffix_L1 s_2) ((0 : Int), (0 : Int), (0 : Int)) >>= fun q64 => match q64 with
  | .a _ =>
   some (false, false)
  | .b (u_57, l_58) =>
   if (decide (u_57 ≤ (1 : Int))) then
    some ((decide (l_58 ≤ (2 : Int))), (u_57 == (1 : Int)))
   else
    some (false, (u_57 == (1 : Int)))
theorem G_burinref05_suffix_ok {s_2 : Bytes} {r3 : Bool} {r4 : Bool} (hx : G_burinref05_suffix s_2 = some (r3, r4)) : PureE E 124 [(.str s_2)] (fun v => v = (.tuple [(.bool r3), (.bool r4)])) := by
 refine pureE_ok fn_burinref05_suffix rfl ?_
 have hb := hx
 dsimp only [G_burinref05_suffix] at hb
 have X := True.intro
 refine Tw ?_
 refine bnd1 hb (fun q64 h65 hb => ?_)
 refine G_burinref05_suffix_L1_ok _ _ _ _ h65 trivial trivial _ Cw ?_ ?_
 ·intro f52 ex Y54
  subst ex
  try dsimp only at hb
  have hb := Option.some.inj hb
  obtain ⟨e0, e1⟩ := Prod.mk.inj hb
  subst e0
  subst e1
  have X := And.intro Y54 X
  refine Tw ?_
  exact endI rfl
 ·intro f59 u_57 l_58 ex Y61
  subst ex
  try dsimp only at hb
  have X := And.intro Y61 X
  refine Tw ?_
  refine bq_if hb rfl (fun c70 hb => ?_) (fun c70 hb => ?_)
  ·have hb := Option.some.inj hb
   obtain ⟨e0, e1⟩ := Prod.mk.inj hb
   subst e0
   subst e1
   have X := And.intro c70 X
   refine Tw ?_
   exact endI rfl
  ·have hb := Option.some.inj hb
   obtain ⟨e0, e1⟩ := Prod.mk.inj hb
   subst e0
   subst e1
   have X := And.intro c70 X
   refine Tw ?_
   exact endI rfl
def G_burinref05_Number_L1 (s_10 : Bytes) (b_11 : Int) : Int × Int × Int → Option ((Int × Int × Int) ⊕ (Ex2 (Int × Int × Int) (Unit))) := fun (at_12, v_13, n_14) =>
 (
  if (decide (at_12 < ((List.length s_10 : Nat) : Int))) then
   idx s_10 at_12 >>= fun x31 =>
   G_burinref05_hex (x31.toNat : Int) >>= fun r32 =>
   if (decide ((IntKind.wrap .u64 r32) < b_11)) then
    some (Ex2.b ())
   else
    some (Ex2.a (Sum.inr (Ex2.a (at_12, v_13, n_14))))
  else
   some (Ex2.a (Sum.inr (Ex2.a (at_12, v_13, n_14))))
 ) >>= fun j42 => match j42 with
  | .a q => some q
  | .b () =>
   idx s_10 at_12 >>= fun x48 =>
   G_burinref05_hex (x48.toNat : Int) >>= fun r49 =>
   quo .u64 (IntKind.wrap .u64 ((18446744073709551615 : Int) - (IntKind.wrap .u64 r49))) b_11 >>= fun i51 =>
   if (decide (i51 < v_13)) then
    some (Sum.inr (Ex2.b ()))
   else
    some (Sum.inl ((IntKind.wrap .i64 (at_12 + (1 : Int))), (IntKind.wrap .u64 ((IntKind.wrap .u64 (v_13 * b_11)) + (IntKind.wrap .u64 r49))), (IntKind.wrap .i64 (n_14 + (1 : Int)))))
theorem G_burinref05_Number_L1_ok {κ : Kt} {t : Blk κ} {s_10 : Bytes} {b_11 : Int} {h16 : Heap} (at_12 : Int) (v_13 : Int) (n_14 : Int) (x : Ex2 (Int × Int × Int) (Unit)) (hx : loopO (G_burinref05_Number_L1 s_10 b_11) (at_12, v_13, n_14) = some x) (hh : True) (ho : True) : ∀ (f15 : Fr), (f15 0 = (.str s_10) ∧ f15 5 = (.int .u64 b_11) ∧ f15 6 = (.int .i64 at_12) ∧ f15 7 = (.int .u64 v_13) ∧ f15 8 = (.int .i64 n_14)) → (∀ (f56 : Fr) (at_53 : Int) (v_54 : Int) (n_55 : Int), Ex2.a (at_53, v_54, n_55) = x → (f56 0 = (.str s_10) ∧ f56 5 = (.int .u64 b_11) ∧ f56 6 = (.int .i64 at_53) ∧ f56 7 = (.int .u64 v_54) ∧ f56 8 = (.int .i64 n_55)) → κ.B 0 f56 h16) → (∀ (f61 : Fr), Ex2.b () = x → (f61 2 = (.int .u64 (0 : Int)) ∧ f61 3 = (.bool false) ∧ f61 4 = (.int .i64 (50 : Int))) → κ.R f61 h16) → Lq E (.loop L_burinref05_Number_1) κ t f15 h16 := by
 revert at_12 v_13 n_14 x
 refine loop3' ?_
 intro at_12 v_13 n_14 r hb x hn f15  Y17  ex0 ex1
 dsimp only [G_burinref05_Number_L1] at hb
 refine loop_step L_burinref05_Number_1.eq_1 ?_
 have X := Y17
 refine Tw ?_
 refine Tw ?_
 refine bnd1 hb (fun j42 hj hb => ?_)
 refine wq_joinF (fun Z => ∀ (f37 : Fr), Ex2.b () = j42 → (f37 0 = (.str s_10) ∧ f37 5 = (.int .u64 b_11) ∧ f37 6 = (.int .i64 at_12) ∧ f37 7 = (.int .u64 v_13) ∧ f37 8 = (.int .i64 n_14)) → Z f37) (fun Z hX29 => ?_) ?_
 ·have hr28 := hb
  clear hb
  have hb := hj
  clear hj
  refine wq_def J_burinref05_Number_1.eq_1 ?_
  refine Tw ?_
  refine Tw ?_
  refine bq_if hb rfl (fun c30 hb => ?_) (fun c30 hb => ?_)
  ·have X := And.intro c30 X
   refine Tw ?_
   refine vq_idxS hb (fun x31 hx31 hb => ?_)
   refine Tw ?_
   refine bnd1 hb (fun r32 h33 hb => ?_)
   refine pq_eq (G_burinref05_hex_ok h33) ?_
   refine Tw ?_
   refine bq_if hb rfl (fun c34 hb => ?_) (fun c34 hb => ?_)
   ·have hb := Option.some.inj hb
    subst hb
    have X := And.intro c34 X
    refine Tw ?_
    exact hX29 _ rfl Cw
   ·have hq := Option.some.inj hb
    subst hq
    try dsimp only at hr28
    have hb := hr28
    have hb := Option.some.inj hb
    subst hb
    have hn : _ = _ := hn
    subst hn
    have X := And.intro c34 X
    refine Tw ?_
    exact ex0 _ at_12 v_13 n_14 rfl Cw
  ·have hq := Option.some.inj hb
   subst hq
   try dsimp only at hr28
   have hb := hr28
   have hb := Option.some.inj hb
   subst hb
   have hn : _ = _ := hn
   subst hn
   have X := And.intro c30 X
   refine Tw ?_
   exact ex0 _ at_12 v_13 n_14 rfl Cw
 ·intro f37 ej Y39
  subst ej
  try dsimp only at hb
  have X := And.intro Y39 X
  refine Tw ?_
  refine vq_idxS hb (fun x48 hx48 hb => ?_)
  refine Tw ?_
  refine bnd1 hb (fun r49 h50 hb => ?_)
  refine pq_eq (G_burinref05_hex_ok h50) ?_
  refine Tw ?_
  refine vq_quo hb (fun i51 hi51 hb => ?_)
  refine Tw ?_
  refine bq_if hb rfl (fun c52 hb => ?_) (fun c52 hb => ?_)
  ·have hb := Option.some.inj hb
   subst hb
   have hn : _ = _ := hn
   subst hn
   have X := And.intro c52 X
   refine Tw ?_
   exact ex1 _ rfl Cw
  ·have hb := Option.some.inj hb
   subst hb
   have X := And.intro c52 X
   refine Tw ?_
   exact hn _  Cw ex0 ex1
end Go.Proofs.YtmngkcpobmhnoaaGreatDoor.Sim
