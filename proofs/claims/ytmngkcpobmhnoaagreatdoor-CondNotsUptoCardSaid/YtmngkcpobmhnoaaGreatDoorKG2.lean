/- Printed functions, continued. -/
import Derived.Test.YtmngkcpobmhnoaaGreatDoorKG1
set_option linter.all false
set_option maxHeartbeats 4000000
set_option maxRecDepth 20000
namespace Go.Proofs.YtmngkcpobmhnoaaGreatDoor.Sim
def G_cond_eval_choice_b (F : Rec_cond_eval_choice) (p_2 : T_cond_eval) (counts_9 : Bool) : Option (T_cond_value × T_cond_eval) :=
 F.cond_eval_chain p_2 (1 : Int) counts_9 >>= fun (r21, p22) =>
 G_cond_eval_take p22 ([63] : Bytes) >>= fun (r37, p38) =>
 if (!r37) then
  some (r21, p38)
 else
  (
   if counts_9 then
    F.cond_eval_choice p38 (!(r21.v_ == (0 : Int))) >>= fun (r56, p57) =>
    some (true, p57.l_, p57.bad_, r56.v_, r56.u_)
   else
    F.cond_eval_choice p38 false >>= fun (r73, p74) =>
    some (false, p74.l_, p74.bad_, r73.v_, r73.u_)
  ) >>= fun (counts_89, v95, v100, v102, v103) =>
  G_cond_eval_take (T_cond_eval.mk v95 v100) ([58] : Bytes) >>= fun (r116, p117) =>
  G_cond_eval_fails p117 (!r116) >>= fun p129 =>
  (
   if counts_89 then
    F.cond_eval_choice p129 (r21.v_ == (0 : Int)) >>= fun (r145, p146) =>
    some (p146.l_, p146.bad_, r145.v_, r145.u_)
   else
    F.cond_eval_choice p129 false >>= fun (r162, p163) =>
    some (p163.l_, p163.bad_, r162.v_, r162.u_)
  ) >>= fun (v183, v188, v190, v191) =>
  if v103 then
   if (r21.v_ == (0 : Int)) then
    some ((T_cond_value.mk v190 true), (T_cond_eval.mk v183 v188))
   else
    some ((T_cond_value.mk v102 true), (T_cond_eval.mk v183 v188))
  else
   if (r21.v_ == (0 : Int)) then
    some ((T_cond_value.mk v190 v191), (T_cond_eval.mk v183 v188))
   else
    some ((T_cond_value.mk v102 v191), (T_cond_eval.mk v183 v188))
theorem G_cond_eval_choice_b_ok {F : Rec_cond_eval_choice} (hF : Rec_cond_eval_choice.OK F) {h1 : Heap} {b4 : Nat} {p_2 : T_cond_eval} {counts_9 : Bool} {o5 : Own} {e6 : Nat} {M7 : List (List PV)} {r10 : T_cond_value} {r11 : T_cond_eval} (hx : G_cond_eval_choice_b F p_2 counts_9 = some (r10, r11)) (z16 : h1.box b4 = some [(.slice o5 e6 M7), (.bool p_2.bad_)]) (w17 : b4 < h1.n) (s8 : SlR 6 T_api_Tok.R o5 e6 p_2.l_ M7) : CallC E (.func 38 [] []) [(.ptr b4 0), (.bool counts_9)] h1 (fun v h18 => ∃ o12 e13 M14, v = (.agg [(.int .u64 r10.v_), (.bool r10.u_)]) ∧ h18.box b4 = some [(.slice o12 e13 M14), (.bool r11.bad_)] ∧ FrB [b4] h1 h18 ∧ SlR 6 T_api_Tok.R o12 e13 r11.l_ M14) := by
 refine callE_ok fn_cond_eval_choice rfl ?_
 have hb := hx
 dsimp only [G_cond_eval_choice_b] at hb
 have X := And.intro z16 (s8.len)
 refine Tw ?_
 refine bnd2 hb (fun r21 p22 h27 hb => ?_)
 try dsimp only at hb
 refine fq_mono1 (hF.cond_eval_chain h27 Cw Cn s8) (fun o23 e24 M25 h28 S216 => ?_)
 have z31 := S216.1
 have F29 := S216.2.1
 have s26 := S216.2.2
 have q30 := F29.n
 try simp only [HN] at q30
 have F32 : FrB [b4] h1 h28 := FrB.call Cf F29 (by intro j hj; simp only [List.mem_cons, List.not_mem_nil, or_false] at hj; first | (subst hj; left; simp; done) | (right; omega))
 have X := And.intro z31 (And.intro F29.box1 (And.intro F29.loop (And.intro F29.bty (And.intro F32 (And.intro s26.len X)))))
 refine Tw ?_
 refine bnd2 hb (fun r37 p38 h43 hb => ?_)
 try dsimp only at hb
 refine fq_mono1 (G_cond_eval_take_ok h43 Cw Cn s26) (fun o39 e40 M41 h44 S215 => ?_)
 have z47 := S215.1
 have F45 := S215.2.1
 have s42 := S215.2.2
 have q46 := F45.n
 try simp only [HN] at q46
 have F48 : FrB [b4] h1 h44 := FrB.call Cf F45 (by intro j hj; simp only [List.mem_cons, List.not_mem_nil, or_false] at hj; first | (subst hj; left; simp; done) | (right; omega))
 have X := And.intro z47 (And.intro F45.box1 (And.intro F45.loop (And.intro F45.bty (And.intro F48 (And.intro s42.len X)))))
 refine Tw ?_
 refine bq_if hb rfl (fun c50 hb => ?_) (fun c50 hb => ?_)
 ·have hb := Option.some.inj hb
  obtain ⟨e0, e1⟩ := Prod.mk.inj hb
  subst e0
  subst e1
  have X := And.intro c50 X
  refine Tw ?_
  exact endHI ⟨o39, e40, M41, rfl, Cw, Cf, s42⟩
 ·have X := And.intro c50 X
  refine Tw ?_
  refine bnd1 hb (fun j105 hj hb => ?_)
  refine wq_join (fun Z => ∀ (f90 : Fr) (h91 : Heap) (counts_89 : Bool) (v95 : List T_api_Tok) (v100 : Bool) (v102 : Int) (v103 : Bool) (o96 : Own) (e97 : Nat) (M98 : List (List PV)) (b101 : Nat), (counts_89, v95, v100, v102, v103) = j105 → (f90 0 = (.ptr b4 0) ∧ f90 1 = (.bool counts_89) ∧ f90 4 = (.ptr h1.n 0) ∧ f90 5 = (.ptr h28.n 0) ∧ f90 6 = (.ptr b101 0) ∧ h91.box b4 = some [(.slice o96 e97 M98), (.bool v100)] ∧ h91.box h1.n = some [(.int .u64 (0 : Int)), (.bool false)] ∧ h91.box h28.n = some [(.int .u64 r21.v_), (.bool r21.u_)] ∧ h91.box b101 = some [(.int .u64 v102), (.bool v103)] ∧ FrB [b4] h1 h91) → (b4 < h1.n ∧ h1.n ≤ h1.n ∧ h1.n < h28.n ∧ h28.n < b101 ∧ b101 < h91.n) → SlR 6 T_api_Tok.R o96 e97 v95 M98 → Z f90 h91) (fun Z hX54 => ?_) ?_
  ·have hr53 := hb
   clear hb
   have hb := hj
   clear hj
   refine wq_def J_cond_eval_choice_1.eq_1 ?_
   refine Tw ?_
   refine Tw ?_
   refine bq_if hb rfl (fun c55 hb => ?_) (fun c55 hb => ?_)
   ·have X := And.intro c55 X
    refine Tw ?_
    refine bnd2 hb (fun r56 p57 h62 hb => ?_)
    try dsimp only at hb
    refine fq_mono1 (hF.cond_eval_choice h62 Cw Cn s42) (fun o58 e59 M60 h63 S72 => ?_)
    have z66 := S72.1
    have F64 := S72.2.1
    have s61 := S72.2.2
    have q65 := F64.n
    try simp only [HN] at q65
    have F67 : FrB [b4] h1 h63 := FrB.call Cf F64 (by intro j hj; simp only [List.mem_cons, List.not_mem_nil, or_false] at hj; first | (subst hj; left; simp; done) | (right; omega))
    have hb := Option.some.inj hb
    subst hb
    have X := And.intro z66 (And.intro F64.box1 (And.intro F64.loop (And.intro F64.bty (And.intro F67 (And.intro s61.len X)))))
    refine Tw ?_
    exact hX54 _ _ true p57.l_ p57.bad_ r56.v_ r56.u_ o58 e59 M60 h63.n rfl Cf Cn s61
   ·have X := And.intro c55 X
    refine Tw ?_
    refine bnd2 hb (fun r73 p74 h79 hb => ?_)
    try dsimp only at hb
    refine fq_mono1 (hF.cond_eval_choice h79 Cw Cn s42) (fun o75 e76 M77 h80 S88 => ?_)
    have z83 := S88.1
    have F81 := S88.2.1
    have s78 := S88.2.2
    have q82 := F81.n
    try simp only [HN] at q82
    have F84 : FrB [b4] h1 h80 := FrB.call Cf F81 (by intro j hj; simp only [List.mem_cons, List.not_mem_nil, or_false] at hj; first | (subst hj; left; simp; done) | (right; omega))
    have hb := Option.some.inj hb
    subst hb
    have X := And.intro z83 (And.intro F81.box1 (And.intro F81.loop (And.intro F81.bty (And.intro F84 (And.intro s78.len X)))))
    refine Tw ?_
    exact hX54 _ _ false p74.l_ p74.bad_ r73.v_ r73.u_ o75 e76 M77 h80.n rfl Cf Cn s78
  ·intro f90 h91 counts_89 v95 v100 v102 v103 o96 e97 M98 b101 ej Y92 Y94 s99
   subst ej
   try dsimp only at hb
   have X := And.intro Y92 (And.intro s99.len X)
   refine Tw ?_
   refine bnd2 hb (fun r116 p117 h122 hb => ?_)
   try dsimp only at hb
   refine fq_mono1 (G_cond_eval_take_ok h122 Cw Cn s99) (fun o118 e119 M120 h123 S214 => ?_)
   have z126 := S214.1
   have F124 := S214.2.1
   have s121 := S214.2.2
   have q125 := F124.n
   try simp only [HN] at q125
   have F127 : FrB [b4] h1 h123 := FrB.call Cf F124 (by intro j hj; simp only [List.mem_cons, List.not_mem_nil, or_false] at hj; first | (subst hj; left; simp; done) | (right; omega))
   have X := And.intro z126 (And.intro F124.box1 (And.intro F124.loop (And.intro F124.bty (And.intro F127 (And.intro s121.len X)))))
   refine Tw ?_
   refine bnd1 hb (fun p129 h134 hb => ?_)
   refine fq_mono1 (G_cond_eval_fails_ok h134 Cw Cn s121) (fun o130 e131 M132 h135 S213 => ?_)
   have z138 := S213.1
   have F136 := S213.2.1
   have s133 := S213.2.2
   have q137 := F136.n
   try simp only [HN] at q137
   have F139 : FrB [b4] h1 h135 := FrB.call Cf F136 (by intro j hj; simp only [List.mem_cons, List.not_mem_nil, or_false] at hj; first | (subst hj; left; simp; done) | (right; omega))
   have X := And.intro z138 (And.intro F136.box1 (And.intro F136.loop (And.intro F136.bty (And.intro F139 (And.intro s133.len X)))))
   refine Tw ?_
   refine bnd1 hb (fun j193 hj hb => ?_)
   refine wq_join (fun Z => ∀ (f178 : Fr) (h179 : Heap) (v183 : List T_api_Tok) (v188 : Bool) (v190 : Int) (v191 : Bool) (o184 : Own) (e185 : Nat) (M186 : List (List PV)) (b189 : Nat), (v183, v188, v190, v191) = j193 → (f178 4 = (.ptr h1.n 0) ∧ f178 5 = (.ptr h28.n 0) ∧ f178 6 = (.ptr b101 0) ∧ f178 7 = (.ptr b189 0) ∧ h179.box b4 = some [(.slice o184 e185 M186), (.bool v188)] ∧ h179.box h1.n = some [(.int .u64 (0 : Int)), (.bool false)] ∧ h179.box h28.n = some [(.int .u64 r21.v_), (.bool r21.u_)] ∧ h179.box b101 = some [(.int .u64 v102), (.bool v103)] ∧ h179.box b189 = some [(.int .u64 v190), (.bool v191)] ∧ FrB [b4] h1 h179) → (b4 < h1.n ∧ h1.n ≤ h1.n ∧ h1.n < h28.n ∧ h28.n < b101 ∧ b101 < b189 ∧ b189 < h179.n) → SlR 6 T_api_Tok.R o184 e185 v183 M186 → Z f178 h179) (fun Z hX143 => ?_) ?_
   ·have hr142 := hb
    clear hb
    have hb := hj
    clear hj
    refine wq_def J_cond_eval_choice_2.eq_1 ?_
    refine Tw ?_
    refine Tw ?_
    refine bq_if hb rfl (fun c144 hb => ?_) (fun c144 hb => ?_)
    ·have X := And.intro c144 X
     refine Tw ?_
     refine bnd2 hb (fun r145 p146 h151 hb => ?_)
     try dsimp only at hb
     refine fq_mono1 (hF.cond_eval_choice h151 Cw Cn s133) (fun o147 e148 M149 h152 S161 => ?_)
     have z155 := S161.1
     have F153 := S161.2.1
     have s150 := S161.2.2
     have q154 := F153.n
     try simp only [HN] at q154
     have F156 : FrB [b4] h1 h152 := FrB.call Cf F153 (by intro j hj; simp only [List.mem_cons, List.not_mem_nil, or_false] at hj; first | (subst hj; left; simp; done) | (right; omega))
     have hb := Option.some.inj hb
     subst hb
     have X := And.intro z155 (And.intro F153.box1 (And.intro F153.loop (And.intro F153.bty (And.intro F156 (And.intro s150.len X)))))
     refine Tw ?_
     exact hX143 _ _ p146.l_ p146.bad_ r145.v_ r145.u_ o147 e148 M149 h152.n rfl Cf Cn s150
    ·have X := And.intro c144 X
     refine Tw ?_
     refine bnd2 hb (fun r162 p163 h168 hb => ?_)
     try dsimp only at hb
     refine fq_mono1 (hF.cond_eval_choice h168 Cw Cn s133) (fun o164 e165 M166 h169 S177 => ?_)
     have z172 := S177.1
     have F170 := S177.2.1
     have s167 := S177.2.2
     have q171 := F170.n
     try simp only [HN] at q171
     have F173 : FrB [b4] h1 h169 := FrB.call Cf F170 (by intro j hj; simp only [List.mem_cons, List.not_mem_nil, or_false] at hj; first | (subst hj; left; simp; done) | (right; omega))
     have hb := Option.some.inj hb
     subst hb
     have X := And.intro z172 (And.intro F170.box1 (And.intro F170.loop (And.intro F170.bty (And.intro F173 (And.intro s167.len X)))))
     refine Tw ?_
     exact hX143 _ _ p163.l_ p163.bad_ r162.v_ r162.u_ o164 e165 M166 h169.n rfl Cf Cn s167
   ·intro f178 h179 v183 v188 v190 v191 o184 e185 M186 b189 ej Y180 Y182 s187
    subst ej
    try dsimp only at hb
    have X := And.intro Y180 (And.intro s8.len (And.intro s26.len (And.intro s42.len (And.intro c50 (And.intro s99.len (And.intro s121.len (And.intro s133.len (s187.len))))))))
    refine Tw ?_
    refine bq_if hb rfl (fun c204 hb => ?_) (fun c204 hb => ?_)
    ·have X := And.intro c204 X
     refine Tw ?_
     refine bq_if hb rfl (fun c205 hb => ?_) (fun c205 hb => ?_)
     ·have hb := Option.some.inj hb
      obtain ⟨e0, e1⟩ := Prod.mk.inj hb
      subst e0
      subst e1
      have X := And.intro c205 X
      refine Tw ?_
      exact endHI ⟨o184, e185, M186, rfl, Cw, Cf, s187⟩
     ·have hb := Option.some.inj hb
      obtain ⟨e0, e1⟩ := Prod.mk.inj hb
      subst e0
      subst e1
      have X := And.intro c205 X
      refine Tw ?_
      exact endHI ⟨o184, e185, M186, rfl, Cw, Cf, s187⟩
    ·have X := And.intro c204 X
     refine Tw ?_
     refine bq_if hb rfl (fun c209 hb => ?_) (fun c209 hb => ?_)
     ·have hb := Option.some.inj hb
      obtain ⟨e0, e1⟩ := Prod.mk.inj hb
      subst e0
      subst e1
      have X := And.intro c209 X
      refine Tw ?_
      exact endHI ⟨o184, e185, M186, rfl, Cw, Cf, s187⟩
     ·have hb := Option.some.inj hb
      obtain ⟨e0, e1⟩ := Prod.mk.inj hb
      subst e0
      subst e1
      have X := And.intro c209 X
      refine Tw ?_
      exact endHI ⟨o184, e185, M186, rfl, Cw, Cf, s187⟩
def G_cond_levelOf (s_2 : Bytes) : Option (Int) :=
 if (s_2 == ([124, 124] : Bytes)) then
  some (1 : Int)
 else
  if (s_2 == ([38, 38] : Bytes)) then
   some (2 : Int)
  else
   (
    if (s_2 == ([124] : Bytes)) then
     some true
    else
     if (s_2 == ([94] : Bytes)) then
      some true
     else
      some (s_2 == ([38] : Bytes))
   ) >>= fun v11 =>
   if v11 then
    oIndex ([124, 94, 38] : Bytes) s_2 >>= fun r22 =>
    some (IntKind.wrap .i64 ((3 : Int) + r22))
   else
    (
     if (s_2 == ([61, 61] : Bytes)) then
      some true
     else
      some (s_2 == ([33, 61] : Bytes))
    ) >>= fun v28 =>
    if v28 then
     some (6 : Int)
    else
     (
      if (s_2 == ([60] : Bytes)) then
       some true
      else
       if (s_2 == ([62] : Bytes)) then
        some true
       else
        if (s_2 == ([60, 61] : Bytes)) then
         some true
        else
         some (s_2 == ([62, 61] : Bytes))
     ) >>= fun v44 =>
     if v44 then
      some (7 : Int)
     else
      (
       if (s_2 == ([60, 60] : Bytes)) then
        some true
       else
        some (s_2 == ([62, 62] : Bytes))
      ) >>= fun v58 =>
      if v58 then
       some (8 : Int)
      else
       (
        if (s_2 == ([43] : Bytes)) then
         some true
        else
         some (s_2 == ([45] : Bytes))
       ) >>= fun v72 =>
       if v72 then
        some (9 : Int)
       else
        if (s_2 == ([42] : Bytes)) then
         some (10 : Int)
        else
         if (s_2 == ([47] : Bytes)) then
          some (10 : Int)
         else
          if (s_2 == ([37] : Bytes)) then
           some (10 : Int)
          else
           some (0 : Int)
theorem G_cond_levelOf_ok {s_2 : Bytes} {r3 : Int} (hx : G_cond_levelOf s_2 = some r3) : PureE E 88 [(.str s_2)] (fun v => v = (.int .i64 r3)) := by
 refine pureE_ok fn_cond_levelOf rfl ?_
 have hb := hx
 dsimp only [G_cond_levelOf] at hb
 have X := True.intro
 refine Tw ?_
 refine bq_if hb rfl (fun c4 hb => ?_) (fun c4 hb => ?_)
 ·have hb := Option.some.inj hb
  subst hb
  have X := And.intro c4 X
  refine Tw ?_
  exact endI rfl
 ·have X := And.intro c4 X
  refine Tw ?_
  refine bq_if hb rfl (fun c5 hb => ?_) (fun c5 hb => ?_)
  ·have hb := Option.some.inj hb
   subst hb
   have X := And.intro c5 X
   refine Tw ?_
   exact endI rfl
  ·have X := And.intro c5 X
   refine Tw ?_
   refine bnd1 hb (fun j17 hj hb => ?_)
   refine wq_joinF (fun Z => ∀ (f12 : Fr) (v11 : Bool), v11 = j17 → (f12 0 = (.str s_2) ∧ f12 3 = (.str s_2) ∧ f12 8 = (.bool v11)) → Z f12) (fun Z hX8 => ?_) ?_
   ·have hr7 := hb
    clear hb
    have hb := hj
    clear hj
    refine wq_def J_cond_levelOf_1.eq_1 ?_
    refine Tw ?_
    refine Tw ?_
    refine bq_if hb rfl (fun c9 hb => ?_) (fun c9 hb => ?_)
    ·have hb := Option.some.inj hb
     subst hb
     have X := And.intro c9 X
     refine Tw ?_
     exact hX8 _ true rfl Cw
    ·have X := And.intro c9 X
     refine Tw ?_
     refine bq_if hb rfl (fun c10 hb => ?_) (fun c10 hb => ?_)
     ·have hb := Option.some.inj hb
      subst hb
      have X := And.intro c10 X
      refine Tw ?_
      exact hX8 _ true rfl Cw
     ·have hb := Option.some.inj hb
      subst hb
      have X := And.intro c10 X
      refine Tw ?_
      exact hX8 _ (s_2 == ([38] : Bytes)) rfl Cw
   ·intro f12 v11 ej Y14
    subst ej
    try dsimp only at hb
    have X := And.intro Y14 X
    refine Tw ?_
    refine bq_if hb rfl (fun c21 hb => ?_) (fun c21 hb => ?_)
    ·have X := And.intro c21 X
     refine Tw ?_
     refine bnd1 hb (fun r22 h23 hb => ?_)
     refine hq_Index h23 ?_
     have hb := Option.some.inj hb
     subst hb
     refine Tw ?_
     exact endI rfl
    ·have X := And.intro c21 X
     refine Tw ?_
     refine bnd1 hb (fun j34 hj hb => ?_)
     refine wq_joinF (fun Z => ∀ (f29 : Fr) (v28 : Bool), v28 = j34 → (f29 3 = (.str s_2) ∧ f29 15 = (.bool v28)) → Z f29) (fun Z hX26 => ?_) ?_
     ·have hr25 := hb
      clear hb
      have hb := hj
      clear hj
      refine wq_def J_cond_levelOf_2.eq_1 ?_
      refine Tw ?_
      refine Tw ?_
      refine bq_if hb rfl (fun c27 hb => ?_) (fun c27 hb => ?_)
      ·have hb := Option.some.inj hb
       subst hb
       have X := And.intro c27 X
       refine Tw ?_
       exact hX26 _ true rfl Cw
      ·have hb := Option.some.inj hb
       subst hb
       have X := And.intro c27 X
       refine Tw ?_
       exact hX26 _ (s_2 == ([33, 61] : Bytes)) rfl Cw
     ·intro f29 v28 ej Y31
      subst ej
      try dsimp only at hb
      have X := And.intro Y31 X
      refine Tw ?_
      refine bq_if hb rfl (fun c37 hb => ?_) (fun c37 hb => ?_)
      ·have hb := Option.some.inj hb
       subst hb
       have X := And.intro c37 X
       refine Tw ?_
       exact endI rfl
      ·have X := And.intro c37 X
       refine Tw ?_
       refine bnd1 hb (fun j50 hj hb => ?_)
       refine wq_joinF (fun Z => ∀ (f45 : Fr) (v44 : Bool), v44 = j50 → (f45 3 = (.str s_2) ∧ f45 18 = (.bool v44)) → Z f45) (fun Z hX40 => ?_) ?_
       ·have hr39 := hb
        clear hb
        have hb := hj
        clear hj
        refine wq_def J_cond_levelOf_3.eq_1 ?_
        refine Tw ?_
        refine Tw ?_
        refine bq_if hb rfl (fun c41 hb => ?_) (fun c41 hb => ?_)
        ·have hb := Option.some.inj hb
         subst hb
         have X := And.intro c41 X
         refine Tw ?_
         exact hX40 _ true rfl Cw
        ·have X := And.intro c41 X
         refine Tw ?_
         refine bq_if hb rfl (fun c42 hb => ?_) (fun c42 hb => ?_)
         ·have hb := Option.some.inj hb
          subst hb
          have X := And.intro c42 X
          refine Tw ?_
          exact hX40 _ true rfl Cw
         ·have X := And.intro c42 X
          refine Tw ?_
          refine bq_if hb rfl (fun c43 hb => ?_) (fun c43 hb => ?_)
          ·have hb := Option.some.inj hb
           subst hb
           have X := And.intro c43 X
           refine Tw ?_
           exact hX40 _ true rfl Cw
          ·have hb := Option.some.inj hb
           subst hb
           have X := And.intro c43 X
           refine Tw ?_
           exact hX40 _ (s_2 == ([62, 61] : Bytes)) rfl Cw
       ·intro f45 v44 ej Y47
        subst ej
        try dsimp only at hb
        have X := And.intro Y47 X
        refine Tw ?_
        refine bq_if hb rfl (fun c53 hb => ?_) (fun c53 hb => ?_)
        ·have hb := Option.some.inj hb
         subst hb
         have X := And.intro c53 X
         refine Tw ?_
         exact endI rfl
        ·have X := And.intro c53 X
         refine Tw ?_
         refine bnd1 hb (fun j64 hj hb => ?_)
         refine wq_joinF (fun Z => ∀ (f59 : Fr) (v58 : Bool), v58 = j64 → (f59 3 = (.str s_2) ∧ f59 23 = (.bool v58)) → Z f59) (fun Z hX56 => ?_) ?_
         ·have hr55 := hb
          clear hb
          have hb := hj
          clear hj
          refine wq_def J_cond_levelOf_4.eq_1 ?_
          refine Tw ?_
          refine Tw ?_
          refine bq_if hb rfl (fun c57 hb => ?_) (fun c57 hb => ?_)
          ·have hb := Option.some.inj hb
           subst hb
           have X := And.intro c57 X
           refine Tw ?_
           exact hX56 _ true rfl Cw
          ·have hb := Option.some.inj hb
           subst hb
           have X := And.intro c57 X
           refine Tw ?_
           exact hX56 _ (s_2 == ([62, 62] : Bytes)) rfl Cw
         ·intro f59 v58 ej Y61
          subst ej
          try dsimp only at hb
          have X := And.intro Y61 X
          refine Tw ?_
          refine bq_if hb rfl (fun c67 hb => ?_) (fun c67 hb => ?_)
          ·have hb := Option.some.inj hb
           subst hb
           have X := And.intro c67 X
           refine Tw ?_
           exact endI rfl
          ·have X := And.intro c67 X
           refine Tw ?_
           refine bnd1 hb (fun j78 hj hb => ?_)
           refine wq_joinF (fun Z => ∀ (f73 : Fr) (v72 : Bool), v72 = j78 → (f73 3 = (.str s_2) ∧ f73 26 = (.bool v72)) → Z f73) (fun Z hX70 => ?_) ?_
           ·have hr69 := hb
            clear hb
            have hb := hj
            clear hj
            refine wq_def J_cond_levelOf_5.eq_1 ?_
            refine Tw ?_
            refine Tw ?_
            refine bq_if hb rfl (fun c71 hb => ?_) (fun c71 hb => ?_)
            ·have hb := Option.some.inj hb
             subst hb
             have X := And.intro c71 X
             refine Tw ?_
             exact hX70 _ true rfl Cw
            ·have hb := Option.some.inj hb
             subst hb
             have X := And.intro c71 X
             refine Tw ?_
             exact hX70 _ (s_2 == ([45] : Bytes)) rfl Cw
           ·intro f73 v72 ej Y75
            subst ej
            try dsimp only at hb
            have X := And.intro Y75 X
            refine Tw ?_
            refine bq_if hb rfl (fun c81 hb => ?_) (fun c81 hb => ?_)
            ·have hb := Option.some.inj hb
             subst hb
             have X := And.intro c81 X
             refine Tw ?_
             exact endI rfl
            ·have X := And.intro c81 X
             refine Tw ?_
             refine bq_if hb rfl (fun c82 hb => ?_) (fun c82 hb => ?_)
             ·have hb := Option.some.inj hb
              subst hb
              have X := And.intro c82 X
              refine Tw ?_
              exact endI rfl
             ·have X := And.intro c82 X
              refine Tw ?_
              refine bq_if hb rfl (fun c83 hb => ?_) (fun c83 hb => ?_)
              ·have hb := Option.some.inj hb
               subst hb
               have X := And.intro c83 X
               refine Tw ?_
               exact endI rfl
              ·have X := And.intro c83 X
               refine Tw ?_
               refine bq_if hb rfl (fun c84 hb => ?_) (fun c84 hb => ?_)
               ·have hb := Option.some.inj hb
                subst hb
                have X := And.intro c84 X
                refine Tw ?_
                exact endI rfl
               ·have hb := Option.some.inj hb
                subst hb
                have X := And.intro c84 X
                refine Tw ?_
                exact endI rfl
def G_cond_truth (b_2 : Bool) : Option (T_cond_value) :=
 if b_2 then
  some (T_cond_value.mk (1 : Int) false)
 else
  some (T_cond_value.mk (0 : Int) false)
theorem G_cond_truth_ok {b_2 : Bool} {r3 : T_cond_value} (hx : G_cond_truth b_2 = some r3) : PureE E 89 [(.bool b_2)] (fun v => v = (.agg [(.int .u64 r3.v_), (.bool r3.u_)])) := by
 refine pureE_ok fn_cond_truth rfl ?_
 have hb := hx
 dsimp only [G_cond_truth] at hb
 have X := True.intro
 refine Tw ?_
 refine bq_if hb rfl (fun c6 hb => ?_) (fun c6 hb => ?_)
 ·have hb := Option.some.inj hb
  subst hb
  have X := And.intro c6 X
  refine Tw ?_
  exact endI rfl
 ·have hb := Option.some.inj hb
  subst hb
  have X := And.intro c6 X
  refine Tw ?_
  exact endI rfl
def G_cond_eval_divided (p_2 : T_cond_eval) (op_9 : Bytes) (a_10 : T_cond_value) (b_11 : T_cond_value) (counts_12 : Bool) : Option (T_cond_value × T_cond_eval) :=
 (
  if a_10.u_ then
   some (true, true)
  else
   some (b_11.u_, false)
 ) >>= fun (u_32, v38) =>
 if (b_11.v_ == (0 : Int)) then
  G_cond_eval_fails p_2 counts_12 >>= fun p54 =>
  some ((T_cond_value.mk (0 : Int) u_32), p54)
 else
  if u_32 then
   quo .u64 a_10.v_ b_11.v_ >>= fun i69 =>
   rem a_10.v_ b_11.v_ >>= fun i70 =>
   if (op_9 == ([37] : Bytes)) then
    some ((T_cond_value.mk i70 true), p_2)
   else
    some ((T_cond_value.mk i69 true), p_2)
  else
   if ((IntKind.wrap .i64 b_11.v_) == (-1 : Int)) then
    if (op_9 == ([37] : Bytes)) then
     some ((T_cond_value.mk (0 : Int) false), p_2)
    else
     some ((T_cond_value.mk (IntKind.wrap .u64 (0 - a_10.v_)) false), p_2)
   else
    quo .i64 (IntKind.wrap .i64 a_10.v_) (IntKind.wrap .i64 b_11.v_) >>= fun i78 =>
    rem (IntKind.wrap .i64 a_10.v_) (IntKind.wrap .i64 b_11.v_) >>= fun i79 =>
    if (op_9 == ([37] : Bytes)) then
     some ((T_cond_value.mk (IntKind.wrap .u64 i79) false), p_2)
    else
     some ((T_cond_value.mk (IntKind.wrap .u64 i78) false), p_2)
theorem G_cond_eval_divided_ok {h1 : Heap} {b4 : Nat} {p_2 : T_cond_eval} {op_9 : Bytes} {a_10 : T_cond_value} {b_11 : T_cond_value} {counts_12 : Bool} {o5 : Own} {e6 : Nat} {M7 : List (List PV)} {r13 : T_cond_value} {r14 : T_cond_eval} (hx : G_cond_eval_divided p_2 op_9 a_10 b_11 counts_12 = some (r13, r14)) (z19 : h1.box b4 = some [(.slice o5 e6 M7), (.bool p_2.bad_)]) (w20 : b4 < h1.n) (s8 : SlR 6 T_api_Tok.R o5 e6 p_2.l_ M7) : CallC E (.func 126 [] []) [(.ptr b4 0), (.str op_9), (.agg [(.int .u64 a_10.v_), (.bool a_10.u_)]), (.agg [(.int .u64 b_11.v_), (.bool b_11.u_)]), (.bool counts_12)] h1 (fun v h21 => ∃ o15 e16 M17, v = (.agg [(.int .u64 r13.v_), (.bool r13.u_)]) ∧ h21.box b4 = some [(.slice o15 e16 M17), (.bool r14.bad_)] ∧ FrB [b4] h1 h21 ∧ SlR 6 T_api_Tok.R o15 e16 r14.l_ M17) := by
 refine callE_ok fn_cond_eval_divided rfl ?_
 have hb := hx
 dsimp only [G_cond_eval_divided] at hb
 have X := And.intro z19 (s8.len)
 refine Tw ?_
 refine bnd1 hb (fun j40 hj hb => ?_)
 refine wq_join (fun Z => ∀ (f33 : Fr) (h34 : Heap) (u_32 : Bool) (v38 : Bool), (u_32, v38) = j40 → (f33 0 = (.ptr b4 0) ∧ f33 1 = (.str op_9) ∧ f33 4 = (.bool counts_12) ∧ f33 7 = (.ptr h1.n 0) ∧ f33 8 = (.ptr (h1.n + 1) 0) ∧ f33 10 = (.ptr (h1.n + 1 + 1) 0) ∧ f33 11 = (.bool u_32) ∧ h34.box b4 = some [(.slice o5 e6 M7), (.bool p_2.bad_)] ∧ h34.box h1.n = some [(.int .u64 a_10.v_), (.bool v38)] ∧ h34.box (h1.n + 1) = some [(.int .u64 b_11.v_), (.bool b_11.u_)] ∧ h34.box (h1.n + 1 + 1) = some [(.int .u64 (0 : Int)), (.bool false)] ∧ FrB [b4] h1 h34) → (b4 < h1.n ∧ h1.n ≤ h1.n ∧ h1.n < (h1.n + 1) ∧ (h1.n + 1) < (h1.n + 1 + 1) ∧ (h1.n + 1 + 1) < h34.n) → Z f33 h34) (fun Z hX30 => ?_) ?_
 ·have hr29 := hb
  clear hb
  have hb := hj
  clear hj
  refine wq_def J_cond_eval_divided_1.eq_1 ?_
  refine Tw ?_
  refine Tw ?_
  refine bq_if hb rfl (fun c31 hb => ?_) (fun c31 hb => ?_)
  ·have hb := Option.some.inj hb
   subst hb
   have X := And.intro c31 X
   refine Tw ?_
   exact hX30 _ _ true true rfl Cf Cn
  ·have hb := Option.some.inj hb
   subst hb
   have X := And.intro c31 X
   refine Tw ?_
   exact hX30 _ _ b_11.u_ false rfl Cf Cn
 ·intro f33 h34 u_32 v38 ej Y35 Y37
  subst ej
  try dsimp only at hb
  have X := And.intro Y35 X
  refine Tw ?_
  refine bq_if hb rfl (fun c53 hb => ?_) (fun c53 hb => ?_)
  ·have X := And.intro c53 X
   refine Tw ?_
   refine bnd1 hb (fun p54 h59 hb => ?_)
   refine fq_mono1 (G_cond_eval_fails_ok h59 Cw Cn s8) (fun o55 e56 M57 h60 S67 => ?_)
   have z63 := S67.1
   have F61 := S67.2.1
   have s58 := S67.2.2
   have q62 := F61.n
   try simp only [HN] at q62
   have F64 : FrB [b4] h1 h60 := FrB.call Cf F61 (by intro j hj; simp only [List.mem_cons, List.not_mem_nil, or_false] at hj; first | (subst hj; left; simp; done) | (right; omega))
   have hb := Option.some.inj hb
   obtain ⟨e0, e1⟩ := Prod.mk.inj hb
   subst e0
   subst e1
   have X := And.intro z63 (And.intro F61.box1 (And.intro F61.loop (And.intro F61.bty (And.intro F64 (And.intro s58.len X)))))
   refine Tw ?_
   exact endHI ⟨o55, e56, M57, rfl, Cw, Cf, s58⟩
  ·have X := And.intro c53 X
   refine Tw ?_
   refine bq_if hb rfl (fun c68 hb => ?_) (fun c68 hb => ?_)
   ·have X := And.intro c68 X
    refine Tw ?_
    refine vq_quo hb (fun i69 hi69 hb => ?_)
    refine Tw ?_
    refine vq_rem hb (fun i70 hi70 hb => ?_)
    refine Tw ?_
    refine bq_if hb rfl (fun c71 hb => ?_) (fun c71 hb => ?_)
    ·have hb := Option.some.inj hb
     obtain ⟨e0, e1⟩ := Prod.mk.inj hb
     subst e0
     subst e1
     have X := And.intro c71 X
     refine Tw ?_
     exact endHI ⟨o5, e6, M7, rfl, Cw, Cf, s8⟩
    ·have hb := Option.some.inj hb
     obtain ⟨e0, e1⟩ := Prod.mk.inj hb
     subst e0
     subst e1
     have X := And.intro c71 X
     refine Tw ?_
     exact endHI ⟨o5, e6, M7, rfl, Cw, Cf, s8⟩
   ·have X := And.intro c68 X
    refine Tw ?_
    refine bq_if hb rfl (fun c74 hb => ?_) (fun c74 hb => ?_)
    ·have X := And.intro c74 X
     refine Tw ?_
     refine bq_if hb rfl (fun c75 hb => ?_) (fun c75 hb => ?_)
     ·have hb := Option.some.inj hb
      obtain ⟨e0, e1⟩ := Prod.mk.inj hb
      subst e0
      subst e1
      have X := And.intro c75 X
      refine Tw ?_
      exact endHI ⟨o5, e6, M7, rfl, Cw, Cf, s8⟩
     ·have hb := Option.some.inj hb
      obtain ⟨e0, e1⟩ := Prod.mk.inj hb
      subst e0
      subst e1
      have X := And.intro c75 X
      refine Tw ?_
      exact endHI ⟨o5, e6, M7, rfl, Cw, Cf, s8⟩
    ·have X := And.intro c74 X
     refine Tw ?_
     refine vq_quo hb (fun i78 hi78 hb => ?_)
     refine Tw ?_
     refine vq_rem hb (fun i79 hi79 hb => ?_)
     refine Tw ?_
     refine bq_if hb rfl (fun c80 hb => ?_) (fun c80 hb => ?_)
     ·have hb := Option.some.inj hb
      obtain ⟨e0, e1⟩ := Prod.mk.inj hb
      subst e0
      subst e1
      have X := And.intro c80 X
      refine Tw ?_
      exact endHI ⟨o5, e6, M7, rfl, Cw, Cf, s8⟩
     ·have hb := Option.some.inj hb
      obtain ⟨e0, e1⟩ := Prod.mk.inj hb
      subst e0
      subst e1
      have X := And.intro c80 X
      refine Tw ?_
      exact endHI ⟨o5, e6, M7, rfl, Cw, Cf, s8⟩
def G_cond_eval_shifted (p_2 : T_cond_eval) (op_9 : Bytes) (a_10 : T_cond_value) (b_11 : T_cond_value) (counts_12 : Bool) : Option (T_cond_value × T_cond_eval) :=
 if (decide ((63 : Int) < b_11.v_)) then
  G_cond_eval_fails p_2 counts_12 >>= fun p29 =>
  some ((T_cond_value.mk (0 : Int) a_10.u_), p29)
 else
  if (op_9 == ([60, 60] : Bytes)) then
   shl .u64 a_10.v_ b_11.v_ >>= fun i44 =>
   some ((T_cond_value.mk i44 a_10.u_), p_2)
  else
   if a_10.u_ then
    shr .u64 a_10.v_ b_11.v_ >>= fun i47 =>
    some ((T_cond_value.mk i47 true), p_2)
   else
    shr .i64 (IntKind.wrap .i64 a_10.v_) b_11.v_ >>= fun i49 =>
    some ((T_cond_value.mk (IntKind.wrap .u64 i49) false), p_2)
theorem G_cond_eval_shifted_ok {h1 : Heap} {b4 : Nat} {p_2 : T_cond_eval} {op_9 : Bytes} {a_10 : T_cond_value} {b_11 : T_cond_value} {counts_12 : Bool} {o5 : Own} {e6 : Nat} {M7 : List (List PV)} {r13 : T_cond_value} {r14 : T_cond_eval} (hx : G_cond_eval_shifted p_2 op_9 a_10 b_11 counts_12 = some (r13, r14)) (z19 : h1.box b4 = some [(.slice o5 e6 M7), (.bool p_2.bad_)]) (w20 : b4 < h1.n) (s8 : SlR 6 T_api_Tok.R o5 e6 p_2.l_ M7) : CallC E (.func 127 [] []) [(.ptr b4 0), (.str op_9), (.agg [(.int .u64 a_10.v_), (.bool a_10.u_)]), (.agg [(.int .u64 b_11.v_), (.bool b_11.u_)]), (.bool counts_12)] h1 (fun v h21 => ∃ o15 e16 M17, v = (.agg [(.int .u64 r13.v_), (.bool r13.u_)]) ∧ h21.box b4 = some [(.slice o15 e16 M17), (.bool r14.bad_)] ∧ FrB [b4] h1 h21 ∧ SlR 6 T_api_Tok.R o15 e16 r14.l_ M17) := by
 refine callE_ok fn_cond_eval_shifted rfl ?_
 have hb := hx
 dsimp only [G_cond_eval_shifted] at hb
 have X := And.intro z19 (s8.len)
 refine Tw ?_
 refine bq_if hb rfl (fun c28 hb => ?_) (fun c28 hb => ?_)
 ·have X := And.intro c28 X
  refine Tw ?_
  refine bnd1 hb (fun p29 h34 hb => ?_)
  refine fq_mono1 (G_cond_eval_fails_ok h34 Cw Cn s8) (fun o30 e31 M32 h35 S42 => ?_)
  have z38 := S42.1
  have F36 := S42.2.1
  have s33 := S42.2.2
  have q37 := F36.n
  try simp only [HN] at q37
  have F39 : FrB [b4] h1 h35 := FrB.call Cf F36 (by intro j hj; simp only [List.mem_cons, List.not_mem_nil, or_false] at hj; first | (subst hj; left; simp; done) | (right; omega))
  have hb := Option.some.inj hb
  obtain ⟨e0, e1⟩ := Prod.mk.inj hb
  subst e0
  subst e1
  have X := And.intro z38 (And.intro F36.box1 (And.intro F36.loop (And.intro F36.bty (And.intro F39 (And.intro s33.len X)))))
  refine Tw ?_
  exact endHI ⟨o30, e31, M32, rfl, Cw, Cf, s33⟩
 ·have X := And.intro c28 X
  refine Tw ?_
  refine bq_if hb rfl (fun c43 hb => ?_) (fun c43 hb => ?_)
  ·have X := And.intro c43 X
   refine Tw ?_
   refine vq_shl hb (fun i44 hi44 hb => ?_)
   have hb := Option.some.inj hb
   obtain ⟨e0, e1⟩ := Prod.mk.inj hb
   subst e0
   subst e1
   refine Tw ?_
   exact endHI ⟨o5, e6, M7, rfl, Cw, Cf, s8⟩
  ·have X := And.intro c43 X
   refine Tw ?_
   refine bq_if hb rfl (fun c46 hb => ?_) (fun c46 hb => ?_)
   ·have X := And.intro c46 X
    refine Tw ?_
    refine vq_shr hb (fun i47 hi47 hb => ?_)
    have hb := Option.some.inj hb
    obtain ⟨e0, e1⟩ := Prod.mk.inj hb
    subst e0
    subst e1
    refine Tw ?_
    exact endHI ⟨o5, e6, M7, rfl, Cw, Cf, s8⟩
   ·have X := And.intro c46 X
    refine Tw ?_
    refine vq_shr hb (fun i49 hi49 hb => ?_)
    have hb := Option.some.inj hb
    obtain ⟨e0, e1⟩ := Prod.mk.inj hb
    subst e0
    subst e1
    refine Tw ?_
    exact endHI ⟨o5, e6, M7, rfl, Cw, Cf, s8⟩
def G_cond_compared (op_2 : Bytes) (a_3 : T_cond_value) (b_4 : T_cond_value) : Option (T_cond_value) :=
 (
  if (!a_3.u_) then
   if (!b_4.u_) then
    some ((bxor .u64 a_3.v_ (9223372036854775808 : Int)), (bxor .u64 b_4.v_ (9223372036854775808 : Int)))
   else
    some (a_3.v_, b_4.v_)
  else
   some (a_3.v_, b_4.v_)
 ) >>= fun (x_17, y_18) =>
 if (op_2 == ([61, 61] : Bytes)) then
  if (x_17 == y_18) then
   G_cond_truth true >>= fun r33 =>
   some r33
  else
   if (op_2 == ([33, 61] : Bytes)) then
    G_cond_truth true >>= fun r37 =>
    some r37
   else
    idx op_2 (0 : Int) >>= fun x40 =>
    if ((x40.toNat : Int) == (60 : Int)) then
     if (decide (x_17 < y_18)) then
      G_cond_truth true >>= fun r43 =>
      some r43
     else
      idx op_2 (0 : Int) >>= fun x46 =>
      if ((x46.toNat : Int) == (62 : Int)) then
       if (decide (y_18 < x_17)) then
        G_cond_truth true >>= fun r49 =>
        some r49
       else
        if (((List.length op_2 : Nat) : Int) == (2 : Int)) then
         idx op_2 (0 : Int) >>= fun x53 =>
         if (!((x53.toNat : Int) == (33 : Int))) then
          G_cond_truth false >>= fun r55 =>
          some r55
         else
          G_cond_truth false >>= fun r58 =>
          some r58
        else
         G_cond_truth false >>= fun r61 =>
         some r61
      else
       if (((List.length op_2 : Nat) : Int) == (2 : Int)) then
        idx op_2 (0 : Int) >>= fun x65 =>
        if (!((x65.toNat : Int) == (33 : Int))) then
         G_cond_truth false >>= fun r67 =>
         some r67
        else
         G_cond_truth false >>= fun r70 =>
         some r70
       else
        G_cond_truth false >>= fun r73 =>
        some r73
    else
     idx op_2 (0 : Int) >>= fun x76 =>
     if ((x76.toNat : Int) == (62 : Int)) then
      if (decide (y_18 < x_17)) then
       G_cond_truth true >>= fun r79 =>
       some r79
      else
       if (((List.length op_2 : Nat) : Int) == (2 : Int)) then
        idx op_2 (0 : Int) >>= fun x83 =>
        if (!((x83.toNat : Int) == (33 : Int))) then
         G_cond_truth false >>= fun r85 =>
         some r85
        else
         G_cond_truth false >>= fun r88 =>
         some r88
       else
        G_cond_truth false >>= fun r91 =>
        some r91
     else
      if (((List.length op_2 : Nat) : Int) == (2 : Int)) then
       idx op_2 (0 : Int) >>= fun x95 =>
       if (!((x95.toNat : Int) == (33 : Int))) then
        G_cond_truth false >>= fun r97 =>
        some r97
       else
        G_cond_truth false >>= fun r100 =>
        some r100
      else
       G_cond_truth false >>= fun r103 =>
       some r103
 else
  if (op_2 == ([33, 61] : Bytes)) then
   if (!(x_17 == y_18)) then
    G_cond_truth true >>= fun r108 =>
    some r108
   else
    idx op_2 (0 : Int) >>= fun x111 =>
    if ((x111.toNat : Int) == (60 : Int)) then
     if (decide (x_17 < y_18)) then
      G_cond_truth true >>= fun r114 =>
      some r114
     else
      idx op_2 (0 : Int) >>= fun x117 =>
      if ((x117.toNat : Int) == (62 : Int)) then
       if (decide (y_18 < x_17)) then
        G_cond_truth true >>= fun r120 =>
        some r120
       else
        if (((List.length op_2 : Nat) : Int) == (2 : Int)) then
         idx op_2 (0 : Int) >>= fun x124 =>
         if (!((x124.toNat : Int) == (33 : Int))) then
          G_cond_truth (x_17 == y_18) >>= fun r126 =>
          some r126
         else
          G_cond_truth false >>= fun r129 =>
          some r129
        else
         G_cond_truth false >>= fun r132 =>
         some r132
      else
       if (((List.length op_2 : Nat) : Int) == (2 : Int)) then
        idx op_2 (0 : Int) >>= fun x136 =>
        if (!((x136.toNat : Int) == (33 : Int))) then
         G_cond_truth (x_17 == y_18) >>= fun r138 =>
         some r138
        else
         G_cond_truth false >>= fun r141 =>
         some r141
       else
        G_cond_truth false >>= fun r144 =>
        some r144
    else
     idx op_2 (0 : Int) >>= fun x147 =>
     if ((x147.toNat : Int) == (62 : Int)) then
      if (decide (y_18 < x_17)) then
       G_cond_truth true >>= fun r150 =>
       some r150
      else
       if (((List.length op_2 : Nat) : Int) == (2 : Int)) then
        idx op_2 (0 : Int) >>= fun x154 =>
        if (!((x154.toNat : Int) == (33 : Int))) then
         G_cond_truth (x_17 == y_18) >>= fun r156 =>
         some r156
        else
         G_cond_truth false >>= fun r159 =>
         some r159
       else
        G_cond_truth false >>= fun r162 =>
        some r162
     else
      if (((List.length op_2 : Nat) : Int) == (2 : Int)) then
       idx op_2 (0 : Int) >>= fun x166 =>
       if (!((x166.toNat : Int) == (33 : Int))) then
        G_cond_truth (x_17 == y_18) >>= fun r168 =>
        some r168
       else
        G_cond_truth false >>= fun r171 =>
        some r171
      else
       G_cond_truth false >>= fun r174 =>
       some r174
  else
   idx op_2 (0 : Int) >>= fun x177 =>
   if ((x177.toNat : Int) == (60 : Int)) then
    if (decide (x_17 < y_18)) then
     G_cond_truth true >>= fun r180 =>
     some r180
    else
     idx op_2 (0 : Int) >>= fun x183 =>
     if ((x183.toNat : Int) == (62 : Int)) then
      if (decide (y_18 < x_17)) then
       G_cond_truth true >>= fun r186 =>
       some r186
      else
       if (((List.length op_2 : Nat) : Int) == (2 : Int)) then
        idx op_2 (0 : Int) >>= fun x190 =>
        if (!((x190.toNat : Int) == (33 : Int))) then
         G_cond_truth (x_17 == y_18) >>= fun r192 =>
         some r192
        else
         G_cond_truth false >>= fun r195 =>
         some r195
       else
        G_cond_truth false >>= fun r198 =>
        some r198
     else
      if (((List.length op_2 : Nat) : Int) == (2 : Int)) then
       idx op_2 (0 : Int) >>= fun x202 =>
       if (!((x202.toNat : Int) == (33 : Int))) then
        G_cond_truth (x_17 == y_18) >>= fun r204 =>
        some r204
       else
        G_cond_truth false >>= fun r207 =>
        some r207
      else
       G_cond_truth false >>= fun r210 =>
       some r210
   else
    idx op_2 (0 : Int) >>= fun x213 =>
    if ((x213.toNat : Int) == (62 : Int)) then
     if (decide (y_18 < x_17)) then
      G_cond_truth true >>= fun r216 =>
      some r216
     else
      if (((List.length op_2 : Nat) : Int) == (2 : Int)) then
       idx op_2 (0 : Int) >>= fun x220 =>
       if (!((x220.toNat : Int) == (33 : Int))) then
        G_cond_truth (x_17 == y_18) >>= fun r222 =>
        some r222
       else
        G_cond_truth false >>= fun r225 =>
        some r225
      else
       G_cond_truth false >>= fun r228 =>
       some r228
    else
     if (((List.length op_2 : Nat) : Int) == (2 : Int)) then
      idx op_2 (0 : Int) >>= fun x232 =>
      if (!((x232.toNat : Int) == (33 : Int))) then
       G_cond_truth (x_17 == y_18) >>= fun r234 =>
       some r234
      else
       G_cond_truth false >>= fun r237 =>
       some r237
     else
      G_cond_truth false >>= fun r240 =>
      some r240
theorem G_cond_compared_ok {op_2 : Bytes} {a_3 : T_cond_value} {b_4 : T_cond_value} {r5 : T_cond_value} (hx : G_cond_compared op_2 a_3 b_4 = some r5) : PureE E 128 [(.str op_2), (.agg [(.int .u64 a_3.v_), (.bool a_3.u_)]), (.agg [(.int .u64 b_4.v_), (.bool b_4.u_)])] (fun v => v = (.agg [(.int .u64 r5.v_), (.bool r5.u_)])) := by
 refine pureE_ok fn_cond_compared rfl ?_
 have hb := hx
 dsimp only [G_cond_compared] at hb
 have X := True.intro
 refine Tw ?_
 refine bnd1 hb (fun j25 hj hb => ?_)
 refine wq_join (fun Z => ∀ (f19 : Fr) (h20 : Heap) (x_17 : Int) (y_18 : Int), (x_17, y_18) = j25 → (f19 0 = (.str op_2) ∧ f19 6 = (.ptr 2 0) ∧ f19 7 = (.int .u64 x_17) ∧ f19 8 = (.int .u64 y_18) ∧ h20.box 2 = some [(.int .u64 (0 : Int)), (.bool false)]) → (2 < h20.n) → Z f19 h20) (fun Z hX14 => ?_) ?_
 ·have hr13 := hb
  clear hb
  have hb := hj
  clear hj
  refine wq_def J_cond_compared_1.eq_1 ?_
  refine Tw ?_
  refine Tw ?_
  refine bq_if hb rfl (fun c15 hb => ?_) (fun c15 hb => ?_)
  ·have X := And.intro c15 X
   refine Tw ?_
   refine bq_if hb rfl (fun c16 hb => ?_) (fun c16 hb => ?_)
   ·have hb := Option.some.inj hb
    subst hb
    have X := And.intro c16 X
    refine Tw ?_
    exact hX14 _ _ (bxor .u64 a_3.v_ (9223372036854775808 : Int)) (bxor .u64 b_4.v_ (9223372036854775808 : Int)) rfl Cw Cn
   ·have hb := Option.some.inj hb
    subst hb
    have X := And.intro c16 X
    refine Tw ?_
    exact hX14 _ _ a_3.v_ b_4.v_ rfl Cw Cn
  ·have hb := Option.some.inj hb
   subst hb
   have X := And.intro c15 X
   refine Tw ?_
   exact hX14 _ _ a_3.v_ b_4.v_ rfl Cw Cn
 ·intro f19 h20 x_17 y_18 ej Y21 Y23
  subst ej
  try dsimp only at hb
  have X := And.intro Y21 X
  refine Tw ?_
  refine bq_if hb rfl (fun c31 hb => ?_) (fun c31 hb => ?_)
  ·have X := And.intro c31 X
   refine Tw ?_
   refine bq_if hb rfl (fun c32 hb => ?_) (fun c32 hb => ?_)
   ·have X := And.intro c32 X
    refine Tw ?_
    refine bnd1 hb (fun r33 h34 hb => ?_)
    refine pq_eq (G_cond_truth_ok h34) ?_
    have hb := Option.some.inj hb
    subst hb
    refine Tw ?_
    exact endI rfl
   ·have X := And.intro c32 X
    refine Tw ?_
    refine bq_if hb rfl (fun c36 hb => ?_) (fun c36 hb => ?_)
    ·have X := And.intro c36 X
     refine Tw ?_
     refine bnd1 hb (fun r37 h38 hb => ?_)
     refine pq_eq (G_cond_truth_ok h38) ?_
     have hb := Option.some.inj hb
     subst hb
     refine Tw ?_
     exact endI rfl
    ·have X := And.intro c36 X
     refine Tw ?_
     refine vq_idxS hb (fun x40 hx40 hb => ?_)
     refine Tw ?_
     refine bq_if hb rfl (fun c41 hb => ?_) (fun c41 hb => ?_)
     ·have X := And.intro c41 X
      refine Tw ?_
      refine bq_if hb rfl (fun c42 hb => ?_) (fun c42 hb => ?_)
      ·have X := And.intro c42 X
       refine Tw ?_
       refine bnd1 hb (fun r43 h44 hb => ?_)
       refine pq_eq (G_cond_truth_ok h44) ?_
       have hb := Option.some.inj hb
       subst hb
       refine Tw ?_
       exact endI rfl
      ·have X := And.intro c42 X
       refine Tw ?_
       refine vq_idxS hb (fun x46 hx46 hb => ?_)
       refine Tw ?_
       refine bq_if hb rfl (fun c47 hb => ?_) (fun c47 hb => ?_)
       ·have X := And.intro c47 X
        refine Tw ?_
        refine bq_if hb rfl (fun c48 hb => ?_) (fun c48 hb => ?_)
        ·have X := And.intro c48 X
         refine Tw ?_
         refine bnd1 hb (fun r49 h50 hb => ?_)
         refine pq_eq (G_cond_truth_ok h50) ?_
         have hb := Option.some.inj hb
         subst hb
         refine Tw ?_
         exact endI rfl
        ·have X := And.intro c48 X
         refine Tw ?_
         refine bq_if hb rfl (fun c52 hb => ?_) (fun c52 hb => ?_)
         ·have X := And.intro c52 X
          refine Tw ?_
          refine vq_idxS hb (fun x53 hx53 hb => ?_)
          refine Tw ?_
          refine bq_if hb rfl (fun c54 hb => ?_) (fun c54 hb => ?_)
          ·have X := And.intro c54 X
           refine Tw ?_
           refine bnd1 hb (fun r55 h56 hb => ?_)
           refine pq_eq (G_cond_truth_ok h56) ?_
           have hb := Option.some.inj hb
           subst hb
           refine Tw ?_
           exact endI rfl
          ·have X := And.intro c54 X
           refine Tw ?_
           refine bnd1 hb (fun r58 h59 hb => ?_)
           refine pq_eq (G_cond_truth_ok h59) ?_
           have hb := Option.some.inj hb
           subst hb
           refine Tw ?_
           exact endI rfl
         ·have X := And.intro c52 X
          refine Tw ?_
          refine bnd1 hb (fun r61 h62 hb => ?_)
          refine pq_eq (G_cond_truth_ok h62) ?_
          have hb := Option.some.inj hb
          subst hb
          refine Tw ?_
          exact endI rfl
       ·have X := And.intro c47 X
        refine Tw ?_
        refine bq_if hb rfl (fun c64 hb => ?_) (fun c64 hb => ?_)
        ·have X := And.intro c64 X
         refine Tw ?_
         refine vq_idxS hb (fun x65 hx65 hb => ?_)
         refine Tw ?_
         refine bq_if hb rfl (fun c66 hb => ?_) (fun c66 hb => ?_)
         ·have X := And.intro c66 X
          refine Tw ?_
          refine bnd1 hb (fun r67 h68 hb => ?_)
          refine pq_eq (G_cond_truth_ok h68) ?_
          have hb := Option.some.inj hb
          subst hb
          refine Tw ?_
          exact endI rfl
         ·have X := And.intro c66 X
          refine Tw ?_
          refine bnd1 hb (fun r70 h71 hb => ?_)
          refine pq_eq (G_cond_truth_ok h71) ?_
          have hb := Option.some.inj hb
          subst hb
          refine Tw ?_
          exact endI rfl
        ·have X := And.intro c64 X
         refine Tw ?_
         refine bnd1 hb (fun r73 h74 hb => ?_)
         refine pq_eq (G_cond_truth_ok h74) ?_
         have hb := Option.some.inj hb
         subst hb
         refine Tw ?_
         exact endI rfl
     ·have X := And.intro c41 X
      refine Tw ?_
      refine vq_idxS hb (fun x76 hx76 hb => ?_)
      refine Tw ?_
      refine bq_if hb rfl (fun c77 hb => ?_) (fun c77 hb => ?_)
      ·have X := And.intro c77 X
       refine Tw ?_
       refine bq_if hb rfl (fun c78 hb => ?_) (fun c78 hb => ?_)
       ·have X := And.intro c78 X
        refine Tw ?_
        refine bnd1 hb (fun r79 h80 hb => ?_)
        refine pq_eq (G_cond_truth_ok h80) ?_
        have hb := Option.some.inj hb
        subst hb
        refine Tw ?_
        exact endI rfl
       ·have X := And.intro c78 X
        refine Tw ?_
        refine bq_if hb rfl (fun c82 hb => ?_) (fun c82 hb => ?_)
        ·have X := And.intro c82 X
         refine Tw ?_
         refine vq_idxS hb (fun x83 hx83 hb => ?_)
         refine Tw ?_
         refine bq_if hb rfl (fun c84 hb => ?_) (fun c84 hb => ?_)
         ·have X := And.intro c84 X
          refine Tw ?_
          refine bnd1 hb (fun r85 h86 hb => ?_)
          refine pq_eq (G_cond_truth_ok h86) ?_
          have hb := Option.some.inj hb
          subst hb
          refine Tw ?_
          exact endI rfl
         ·have X := And.intro c84 X
          refine Tw ?_
          refine bnd1 hb (fun r88 h89 hb => ?_)
          refine pq_eq (G_cond_truth_ok h89) ?_
          have hb := Option.some.inj hb
          subst hb
          refine Tw ?_
          exact endI rfl
        ·have X := And.intro c82 X
         refine Tw ?_
         refine bnd1 hb (fun r91 h92 hb => ?_)
         refine pq_eq (G_cond_truth_ok h92) ?_
         have hb := Option.some.inj hb
         subst hb
         refine Tw ?_
         exact endI rfl
      ·have X := And.intro c77 X
       refine Tw ?_
       refine bq_if hb rfl (fun c94 hb => ?_) (fun c94 hb => ?_)
       ·have X := And.intro c94 X
        refine Tw ?_
        refine vq_idxS hb (fun x95 hx95 hb => ?_)
        refine Tw ?_
        refine bq_if hb rfl (fun c96 hb => ?_) (fun c96 hb => ?_)
        ·have X := And.intro c96 X
         refine Tw ?_
         refine bnd1 hb (fun r97 h98 hb => ?_)
         refine pq_eq (G_cond_truth_ok h98) ?_
         have hb := Option.some.inj hb
         subst hb
         refine Tw ?_
         exact endI rfl
        ·have X := And.intro c96 X
         refine Tw ?_
         refine bnd1 hb (fun r100 h101 hb => ?_)
         refine pq_eq (G_cond_truth_ok h101) ?_
         have hb := Option.some.inj hb
         subst hb
         refine Tw ?_
         exact endI rfl
       ·have X := And.intro c94 X
        refine Tw ?_
        refine bnd1 hb (fun r103 h104 hb => ?_)
        refine pq_eq (G_cond_truth_ok h104) ?_
        have hb := Option.some.inj hb
        subst hb
        refine Tw ?_
        exact endI rfl
  ·have X := And.intro c31 X
   refine Tw ?_
   refine bq_if hb rfl (fun c106 hb => ?_) (fun c106 hb => ?_)
   ·have X := And.intro c106 X
    refine Tw ?_
    refine bq_if hb rfl (fun c107 hb => ?_) (fun c107 hb => ?_)
    ·have X := And.intro c107 X
     refine Tw ?_
     refine bnd1 hb (fun r108 h109 hb => ?_)
     refine pq_eq (G_cond_truth_ok h109) ?_
     have hb := Option.some.inj hb
     subst hb
     refine Tw ?_
     exact endI rfl
    ·have X := And.intro c107 X
     refine Tw ?_
     refine vq_idxS hb (fun x111 hx111 hb => ?_)
     refine Tw ?_
     refine bq_if hb rfl (fun c112 hb => ?_) (fun c112 hb => ?_)
     ·have X := And.intro c112 X
      refine Tw ?_
      refine bq_if hb rfl (fun c113 hb => ?_) (fun c113 hb => ?_)
      ·have X := And.intro c113 X
       refine Tw ?_
       refine bnd1 hb (fun r114 h115 hb => ?_)
       refine pq_eq (G_cond_truth_ok h115) ?_
       have hb := Option.some.inj hb
       subst hb
       refine Tw ?_
       exact endI rfl
      ·have X := And.intro c113 X
       refine Tw ?_
       refine vq_idxS hb (fun x117 hx117 hb => ?_)
       refine Tw ?_
       refine bq_if hb rfl (fun c118 hb => ?_) (fun c118 hb => ?_)
       ·have X := And.intro c118 X
        refine Tw ?_
        refine bq_if hb rfl (fun c119 hb => ?_) (fun c119 hb => ?_)
        ·have X := And.intro c119 X
         refine Tw ?_
         refine bnd1 hb (fun r120 h121 hb => ?_)
         refine pq_eq (G_cond_truth_ok h121) ?_
         have hb := Option.some.inj hb
         subst hb
         refine Tw ?_
         exact endI rfl
        ·have X := And.intro c119 X
         refine Tw ?_
         refine bq_if hb rfl (fun c123 hb => ?_) (fun c123 hb => ?_)
         ·have X := And.intro c123 X
          refine Tw ?_
          refine vq_idxS hb (fun x124 hx124 hb => ?_)
          refine Tw ?_
          refine bq_if hb rfl (fun c125 hb => ?_) (fun c125 hb => ?_)
          ·have X := And.intro c125 X
           refine Tw ?_
           refine bnd1 hb (fun r126 h127 hb => ?_)
           refine pq_eq (G_cond_truth_ok h127) ?_
           have hb := Option.some.inj hb
           subst hb
           refine Tw ?_
           exact endI rfl
          ·have X := And.intro c125 X
           refine Tw ?_
           refine bnd1 hb (fun r129 h130 hb => ?_)
           refine pq_eq (G_cond_truth_ok h130) ?_
           have hb := Option.some.inj hb
           subst hb
           refine Tw ?_
           exact endI rfl
         ·have X := And.intro c123 X
          refine Tw ?_
          refine bnd1 hb (fun r132 h133 hb => ?_)
          refine pq_eq (G_cond_truth_ok h133) ?_
          have hb := Option.some.inj hb
          subst hb
          refine Tw ?_
          exact endI rfl
       ·have X := And.intro c118 X
        refine Tw ?_
        refine bq_if hb rfl (fun c135 hb => ?_) (fun c135 hb => ?_)
        ·have X := And.intro c135 X
         refine Tw ?_
         refine vq_idxS hb (fun x136 hx136 hb => ?_)
         refine Tw ?_
         refine bq_if hb rfl (fun c137 hb => ?_) (fun c137 hb => ?_)
         ·have X := And.intro c137 X
          refine Tw ?_
          refine bnd1 hb (fun r138 h139 hb => ?_)
          refine pq_eq (G_cond_truth_ok h139) ?_
          have hb := Option.some.inj hb
          subst hb
          refine Tw ?_
          exact endI rfl
         ·have X := And.intro c137 X
          refine Tw ?_
          refine bnd1 hb (fun r141 h142 hb => ?_)
          refine pq_eq (G_cond_truth_ok h142) ?_
          have hb := Option.some.inj hb
          subst hb
          refine Tw ?_
          exact endI rfl
        ·have X := And.intro c135 X
         refine Tw ?_
         refine bnd1 hb (fun r144 h145 hb => ?_)
         refine pq_eq (G_cond_truth_ok h145) ?_
         have hb := Option.some.inj hb
         subst hb
         refine Tw ?_
         exact endI rfl
     ·have X := And.intro c112 X
      refine Tw ?_
      refine vq_idxS hb (fun x147 hx147 hb => ?_)
      refine Tw ?_
      refine bq_if hb rfl (fun c148 hb => ?_) (fun c148 hb => ?_)
      ·have X := And.intro c148 X
       refine Tw ?_
       refine bq_if hb rfl (fun c149 hb => ?_) (fun c149 hb => ?_)
       ·have X := And.intro c149 X
        refine Tw ?_
        refine bnd1 hb (fun r150 h151 hb => ?_)
        refine pq_eq (G_cond_truth_ok h151) ?_
        have hb := Option.some.inj hb
        subst hb
        refine Tw ?_
        exact endI rfl
       ·have X := And.intro c149 X
        refine Tw ?_
        refine bq_if hb rfl (fun c153 hb => ?_) (fun c153 hb => ?_)
        ·have X := And.intro c153 X
         refine Tw ?_
         refine vq_idxS hb (fun x154 hx154 hb => ?_)
         refine Tw ?_
         refine bq_if hb rfl (fun c155 hb => ?_) (fun c155 hb => ?_)
         ·have X := And.intro c155 X
          refine Tw ?_
          refine bnd1 hb (fun r156 h157 hb => ?_)
          refine pq_eq (G_cond_truth_ok h157) ?_
          have hb := Option.some.inj hb
          subst hb
          refine Tw ?_
          exact endI rfl
         ·have X := And.intro c155 X
          refine Tw ?_
          refine bnd1 hb (fun r159 h160 hb => ?_)
          refine pq_eq (G_cond_truth_ok h160) ?_
          have hb := Option.some.inj hb
          subst hb
          refine Tw ?_
          exact endI rfl
        ·have X := And.intro c153 X
         refine Tw ?_
         refine bnd1 hb (fun r162 h163 hb => ?_)
         refine pq_eq (G_cond_truth_ok h163) ?_
         have hb := Option.some.inj hb
         subst hb
         refine Tw ?_
         exact endI rfl
      ·have X := And.intro c148 X
       refine Tw ?_
       refine bq_if hb rfl (fun c165 hb => ?_) (fun c165 hb => ?_)
       ·have X := And.intro c165 X
        refine Tw ?_
        refine vq_idxS hb (fun x166 hx166 hb => ?_)
        refine Tw ?_
        refine bq_if hb rfl (fun c167 hb => ?_) (fun c167 hb => ?_)
        ·have X := And.intro c167 X
         refine Tw ?_
         refine bnd1 hb (fun r168 h169 hb => ?_)
         refine pq_eq (G_cond_truth_ok h169) ?_
         have hb := Option.some.inj hb
         subst hb
         refine Tw ?_
         exact endI rfl
        ·have X := And.intro c167 X
         refine Tw ?_
         refine bnd1 hb (fun r171 h172 hb => ?_)
         refine pq_eq (G_cond_truth_ok h172) ?_
         have hb := Option.some.inj hb
         subst hb
         refine Tw ?_
         exact endI rfl
       ·have X := And.intro c165 X
        refine Tw ?_
        refine bnd1 hb (fun r174 h175 hb => ?_)
        refine pq_eq (G_cond_truth_ok h175) ?_
        have hb := Option.some.inj hb
        subst hb
        refine Tw ?_
        exact endI rfl
   ·have X := And.intro c106 X
    refine Tw ?_
    refine vq_idxS hb (fun x177 hx177 hb => ?_)
    refine Tw ?_
    refine bq_if hb rfl (fun c178 hb => ?_) (fun c178 hb => ?_)
    ·have X := And.intro c178 X
     refine Tw ?_
     refine bq_if hb rfl (fun c179 hb => ?_) (fun c179 hb => ?_)
     ·have X := And.intro c179 X
      refine Tw ?_
      refine bnd1 hb (fun r180 h181 hb => ?_)
      refine pq_eq (G_cond_truth_ok h181) ?_
      have hb := Option.some.inj hb
      subst hb
      refine Tw ?_
      exact endI rfl
     ·have X := And.intro c179 X
      refine Tw ?_
      refine vq_idxS hb (fun x183 hx183 hb => ?_)
      refine Tw ?_
      refine bq_if hb rfl (fun c184 hb => ?_) (fun c184 hb => ?_)
      ·have X := And.intro c184 X
       refine Tw ?_
       refine bq_if hb rfl (fun c185 hb => ?_) (fun c185 hb => ?_)
       ·have X := And.intro c185 X
        refine Tw ?_
        refine bnd1 hb (fun r186 h187 hb => ?_)
        refine pq_eq (G_cond_truth_ok h187) ?_
        have hb := Option.some.inj hb
        subst hb
        refine Tw ?_
        exact endI rfl
       ·have X := And.intro c185 X
        refine Tw ?_
        refine bq_if hb rfl (fun c189 hb => ?_) (fun c189 hb => ?_)
        ·have X := And.intro c189 X
         refine Tw ?_
         refine vq_idxS hb (fun x190 hx190 hb => ?_)
         refine Tw ?_
         refine bq_if hb rfl (fun c191 hb => ?_) (fun c191 hb => ?_)
         ·have X := And.intro c191 X
          refine Tw ?_
          refine bnd1 hb (fun r192 h193 hb => ?_)
          refine pq_eq (G_cond_truth_ok h193) ?_
          have hb := Option.some.inj hb
          subst hb
          refine Tw ?_
          exact endI rfl
         ·have X := And.intro c191 X
          refine Tw ?_
          refine bnd1 hb (fun r195 h196 hb => ?_)
          refine pq_eq (G_cond_truth_ok h196) ?_
          have hb := Option.some.inj hb
          subst hb
          refine Tw ?_
          exact endI rfl
        ·have X := And.intro c189 X
         refine Tw ?_
         refine bnd1 hb (fun r198 h199 hb => ?_)
         refine pq_eq (G_cond_truth_ok h199) ?_
         have hb := Option.some.inj hb
         subst hb
         refine Tw ?_
         exact endI rfl
      ·have X := And.intro c184 X
       refine Tw ?_
       refine bq_if hb rfl (fun c201 hb => ?_) (fun c201 hb => ?_)
       ·have X := And.intro c201 X
        refine Tw ?_
        refine vq_idxS hb (fun x202 hx202 hb => ?_)
        refine Tw ?_
        refine bq_if hb rfl (fun c203 hb => ?_) (fun c203 hb => ?_)
        ·have X := And.intro c203 X
         refine Tw ?_
         refine bnd1 hb (fun r204 h205 hb => ?_)
         refine pq_eq (G_cond_truth_ok h205) ?_
         have hb := Option.some.inj hb
         subst hb
         refine Tw ?_
         exact endI rfl
        ·have X := And.intro c203 X
         refine Tw ?_
         refine bnd1 hb (fun r207 h208 hb => ?_)
         refine pq_eq (G_cond_truth_ok h208) ?_
         have hb := Option.some.inj hb
         subst hb
         refine Tw ?_
         exact endI rfl
       ·have X := And.intro c201 X
        refine Tw ?_
        refine bnd1 hb (fun r210 h211 hb => ?_)
        refine pq_eq (G_cond_truth_ok h211) ?_
        have hb := Option.some.inj hb
        subst hb
        refine Tw ?_
        exact endI rfl
    ·have X := And.intro c178 X
     refine Tw ?_
     refine vq_idxS hb (fun x213 hx213 hb => ?_)
     refine Tw ?_
     refine bq_if hb rfl (fun c214 hb => ?_) (fun c214 hb => ?_)
     ·have X := And.intro c214 X
      refine Tw ?_
      refine bq_if hb rfl (fun c215 hb => ?_) (fun c215 hb => ?_)
      ·have X := And.intro c215 X
       refine Tw ?_
       refine bnd1 hb (fun r216 h217 hb => ?_)
       refine pq_eq (G_cond_truth_ok h217) ?_
       have hb := Option.some.inj hb
       subst hb
       refine Tw ?_
       exact endI rfl
      ·have X := And.intro c215 X
       refine Tw ?_
       refine bq_if hb rfl (fun c219 hb => ?_) (fun c219 hb => ?_)
       ·have X := And.intro c219 X
        refine Tw ?_
        refine vq_idxS hb (fun x220 hx220 hb => ?_)
        refine Tw ?_
        refine bq_if hb rfl (fun c221 hb => ?_) (fun c221 hb => ?_)
        ·have X := And.intro c221 X
         refine Tw ?_
         refine bnd1 hb (fun r222 h223 hb => ?_)
         refine pq_eq (G_cond_truth_ok h223) ?_
         have hb := Option.some.inj hb
         subst hb
         refine Tw ?_
         exact endI rfl
        ·have X := And.intro c221 X
         refine Tw ?_
         refine bnd1 hb (fun r225 h226 hb => ?_)
         refine pq_eq (G_cond_truth_ok h226) ?_
         have hb := Option.some.inj hb
         subst hb
         refine Tw ?_
         exact endI rfl
       ·have X := And.intro c219 X
        refine Tw ?_
        refine bnd1 hb (fun r228 h229 hb => ?_)
        refine pq_eq (G_cond_truth_ok h229) ?_
        have hb := Option.some.inj hb
        subst hb
        refine Tw ?_
        exact endI rfl
     ·have X := And.intro c214 X
      refine Tw ?_
      refine bq_if hb rfl (fun c231 hb => ?_) (fun c231 hb => ?_)
      ·have X := And.intro c231 X
       refine Tw ?_
       refine vq_idxS hb (fun x232 hx232 hb => ?_)
       refine Tw ?_
       refine bq_if hb rfl (fun c233 hb => ?_) (fun c233 hb => ?_)
       ·have X := And.intro c233 X
        refine Tw ?_
        refine bnd1 hb (fun r234 h235 hb => ?_)
        refine pq_eq (G_cond_truth_ok h235) ?_
        have hb := Option.some.inj hb
        subst hb
        refine Tw ?_
        exact endI rfl
       ·have X := And.intro c233 X
        refine Tw ?_
        refine bnd1 hb (fun r237 h238 hb => ?_)
        refine pq_eq (G_cond_truth_ok h238) ?_
        have hb := Option.some.inj hb
        subst hb
        refine Tw ?_
        exact endI rfl
      ·have X := And.intro c231 X
       refine Tw ?_
       refine bnd1 hb (fun r240 h241 hb => ?_)
       refine pq_eq (G_cond_truth_ok h241) ?_
       have hb := Option.some.inj hb
       subst hb
       refine Tw ?_
       exact endI rfl
end Go.Proofs.YtmngkcpobmhnoaaGreatDoor.Sim
