-- Made by a program of this session (wip/mk.py) over the kit's printing program; Lean checks it.
import Derived.Test.YtlkgdfeeepiidaaF0
import Derived.Test.YtlkgdfeeepiidaaF28
import Derived.Test.YtlkgdfeeepiidaaF26
namespace Go.Proofs.Ytlkgdfeeepiidaa.All
open Go.RowKit Go.Proofs.YtlkgdfeeepiidaaW.PrintWords Go.Proofs.YtlkgdfeeepiidaaW.PrintLast Go.Proofs.YtlkgdfeeepiidaaW.PrintMore
attribute [local go_sem] max2_int min2_int max_two min_two max_three min_three max_four min_four   -- for this text's walks alone
set_option linter.unusedVariables false
set_option linter.unusedSimpArgs false

/-! ### emendationlaw03_TokenCounts: function 4 -/
mutual
def emendationlaw03_TokenCounts.j0 : Nat → ByteArray → Int → Int → Bool → Option (Bool)
  | 0, _, _, _, _ => none
  | k + 1, x0, x1, x2, x17 => if x17 = true then ((emendationlaw03_awake.f k).bind fun t102 => (some t102)) else (emendationlaw03_TokenCounts.l0 k x0 x1 x2 (⟨#[]⟩ : ByteArray) x2 0)
def emendationlaw03_TokenCounts.l0 : Nat → ByteArray → Int → Int → ByteArray → Int → Int → Option (Bool)
  | 0, _, _, _, _, _, _ => none
  | k + 1, x0, x1, x2, x7, x19, x20 => if x20 < x19 then ((some (([x1] : List Int) : List Int)).bind fun y103 => (if x7.size + (strOfNums y103).size ≤ 9223372036854775807 then (emendationlaw03_TokenCounts.l0 k x0 x1 x2 (x7 ++ (strOfNums y103)) x19 ((x20 + 1) % 256)) else (none))) else ((token_Cut.f k x7).bind fun t106 => (if x1 > 32 then (if x1 < 48 then (if (t106.length : Int) = (wrap64 (x2)) then ((token_Cut.f k x0).bind fun t109 => (some (decide ((t109.length : Int) ≤ (x0.size : Int))))) else (some false)) else (if x1 > 57 then (if x1 < 65 then (if (t106.length : Int) = (wrap64 (x2)) then ((token_Cut.f k x0).bind fun t112 => (some (decide ((t112.length : Int) ≤ (x0.size : Int))))) else (some false)) else (if x1 > 90 then (if x1 < 97 then (if (t106.length : Int) = (wrap64 (x2)) then ((token_Cut.f k x0).bind fun t115 => (some (decide ((t115.length : Int) ≤ (x0.size : Int))))) else (some false)) else (if x1 > 122 then (if x1 < 127 then (if (t106.length : Int) = (wrap64 (x2)) then ((token_Cut.f k x0).bind fun t118 => (some (decide ((t118.length : Int) ≤ (x0.size : Int))))) else (some false)) else (if x1 = 10 then (if (t106.length : Int) = (wrap64 (x2)) then ((token_Cut.f k x0).bind fun t121 => (some (decide ((t121.length : Int) ≤ (x0.size : Int))))) else (some false)) else (if x1 = 13 then (if (t106.length : Int) = (wrap64 (x2)) then ((token_Cut.f k x0).bind fun t124 => (some (decide ((t124.length : Int) ≤ (x0.size : Int))))) else (some false)) else (if (t106.length : Int) = (mn (wrap64 (x2)) 1) then ((token_Cut.f k x0).bind fun t127 => (some (decide ((t127.length : Int) ≤ (x0.size : Int))))) else (some false))))) else (if x1 = 10 then (if (t106.length : Int) = (wrap64 (x2)) then ((token_Cut.f k x0).bind fun t130 => (some (decide ((t130.length : Int) ≤ (x0.size : Int))))) else (some false)) else (if x1 = 13 then (if (t106.length : Int) = (wrap64 (x2)) then ((token_Cut.f k x0).bind fun t133 => (some (decide ((t133.length : Int) ≤ (x0.size : Int))))) else (some false)) else (if (t106.length : Int) = (mn (wrap64 (x2)) 1) then ((token_Cut.f k x0).bind fun t136 => (some (decide ((t136.length : Int) ≤ (x0.size : Int))))) else (some false)))))) else (if x1 > 122 then (if x1 < 127 then (if (t106.length : Int) = (wrap64 (x2)) then ((token_Cut.f k x0).bind fun t139 => (some (decide ((t139.length : Int) ≤ (x0.size : Int))))) else (some false)) else (if x1 = 10 then (if (t106.length : Int) = (wrap64 (x2)) then ((token_Cut.f k x0).bind fun t142 => (some (decide ((t142.length : Int) ≤ (x0.size : Int))))) else (some false)) else (if x1 = 13 then (if (t106.length : Int) = (wrap64 (x2)) then ((token_Cut.f k x0).bind fun t145 => (some (decide ((t145.length : Int) ≤ (x0.size : Int))))) else (some false)) else (if (t106.length : Int) = (mn (wrap64 (x2)) 1) then ((token_Cut.f k x0).bind fun t148 => (some (decide ((t148.length : Int) ≤ (x0.size : Int))))) else (some false))))) else (if x1 = 10 then (if (t106.length : Int) = (wrap64 (x2)) then ((token_Cut.f k x0).bind fun t151 => (some (decide ((t151.length : Int) ≤ (x0.size : Int))))) else (some false)) else (if x1 = 13 then (if (t106.length : Int) = (wrap64 (x2)) then ((token_Cut.f k x0).bind fun t154 => (some (decide ((t154.length : Int) ≤ (x0.size : Int))))) else (some false)) else (if (t106.length : Int) = (mn (wrap64 (x2)) 1) then ((token_Cut.f k x0).bind fun t157 => (some (decide ((t157.length : Int) ≤ (x0.size : Int))))) else (some false))))))) else (if x1 > 90 then (if x1 < 97 then (if (t106.length : Int) = (wrap64 (x2)) then ((token_Cut.f k x0).bind fun t160 => (some (decide ((t160.length : Int) ≤ (x0.size : Int))))) else (some false)) else (if x1 > 122 then (if x1 < 127 then (if (t106.length : Int) = (wrap64 (x2)) then ((token_Cut.f k x0).bind fun t163 => (some (decide ((t163.length : Int) ≤ (x0.size : Int))))) else (some false)) else (if x1 = 10 then (if (t106.length : Int) = (wrap64 (x2)) then ((token_Cut.f k x0).bind fun t166 => (some (decide ((t166.length : Int) ≤ (x0.size : Int))))) else (some false)) else (if x1 = 13 then (if (t106.length : Int) = (wrap64 (x2)) then ((token_Cut.f k x0).bind fun t169 => (some (decide ((t169.length : Int) ≤ (x0.size : Int))))) else (some false)) else (if (t106.length : Int) = (mn (wrap64 (x2)) 1) then ((token_Cut.f k x0).bind fun t172 => (some (decide ((t172.length : Int) ≤ (x0.size : Int))))) else (some false))))) else (if x1 = 10 then (if (t106.length : Int) = (wrap64 (x2)) then ((token_Cut.f k x0).bind fun t175 => (some (decide ((t175.length : Int) ≤ (x0.size : Int))))) else (some false)) else (if x1 = 13 then (if (t106.length : Int) = (wrap64 (x2)) then ((token_Cut.f k x0).bind fun t178 => (some (decide ((t178.length : Int) ≤ (x0.size : Int))))) else (some false)) else (if (t106.length : Int) = (mn (wrap64 (x2)) 1) then ((token_Cut.f k x0).bind fun t181 => (some (decide ((t181.length : Int) ≤ (x0.size : Int))))) else (some false)))))) else (if x1 > 122 then (if x1 < 127 then (if (t106.length : Int) = (wrap64 (x2)) then ((token_Cut.f k x0).bind fun t184 => (some (decide ((t184.length : Int) ≤ (x0.size : Int))))) else (some false)) else (if x1 = 10 then (if (t106.length : Int) = (wrap64 (x2)) then ((token_Cut.f k x0).bind fun t187 => (some (decide ((t187.length : Int) ≤ (x0.size : Int))))) else (some false)) else (if x1 = 13 then (if (t106.length : Int) = (wrap64 (x2)) then ((token_Cut.f k x0).bind fun t190 => (some (decide ((t190.length : Int) ≤ (x0.size : Int))))) else (some false)) else (if (t106.length : Int) = (mn (wrap64 (x2)) 1) then ((token_Cut.f k x0).bind fun t193 => (some (decide ((t193.length : Int) ≤ (x0.size : Int))))) else (some false))))) else (if x1 = 10 then (if (t106.length : Int) = (wrap64 (x2)) then ((token_Cut.f k x0).bind fun t196 => (some (decide ((t196.length : Int) ≤ (x0.size : Int))))) else (some false)) else (if x1 = 13 then (if (t106.length : Int) = (wrap64 (x2)) then ((token_Cut.f k x0).bind fun t199 => (some (decide ((t199.length : Int) ≤ (x0.size : Int))))) else (some false)) else (if (t106.length : Int) = (mn (wrap64 (x2)) 1) then ((token_Cut.f k x0).bind fun t202 => (some (decide ((t202.length : Int) ≤ (x0.size : Int))))) else (some false)))))))) else (if x1 > 57 then (if x1 < 65 then (if (t106.length : Int) = (wrap64 (x2)) then ((token_Cut.f k x0).bind fun t205 => (some (decide ((t205.length : Int) ≤ (x0.size : Int))))) else (some false)) else (if x1 > 90 then (if x1 < 97 then (if (t106.length : Int) = (wrap64 (x2)) then ((token_Cut.f k x0).bind fun t208 => (some (decide ((t208.length : Int) ≤ (x0.size : Int))))) else (some false)) else (if x1 > 122 then (if x1 < 127 then (if (t106.length : Int) = (wrap64 (x2)) then ((token_Cut.f k x0).bind fun t211 => (some (decide ((t211.length : Int) ≤ (x0.size : Int))))) else (some false)) else (if x1 = 10 then (if (t106.length : Int) = (wrap64 (x2)) then ((token_Cut.f k x0).bind fun t214 => (some (decide ((t214.length : Int) ≤ (x0.size : Int))))) else (some false)) else (if x1 = 13 then (if (t106.length : Int) = (wrap64 (x2)) then ((token_Cut.f k x0).bind fun t217 => (some (decide ((t217.length : Int) ≤ (x0.size : Int))))) else (some false)) else (if (t106.length : Int) = (mn (wrap64 (x2)) 1) then ((token_Cut.f k x0).bind fun t220 => (some (decide ((t220.length : Int) ≤ (x0.size : Int))))) else (some false))))) else (if x1 = 10 then (if (t106.length : Int) = (wrap64 (x2)) then ((token_Cut.f k x0).bind fun t223 => (some (decide ((t223.length : Int) ≤ (x0.size : Int))))) else (some false)) else (if x1 = 13 then (if (t106.length : Int) = (wrap64 (x2)) then ((token_Cut.f k x0).bind fun t226 => (some (decide ((t226.length : Int) ≤ (x0.size : Int))))) else (some false)) else (if (t106.length : Int) = (mn (wrap64 (x2)) 1) then ((token_Cut.f k x0).bind fun t229 => (some (decide ((t229.length : Int) ≤ (x0.size : Int))))) else (some false)))))) else (if x1 > 122 then (if x1 < 127 then (if (t106.length : Int) = (wrap64 (x2)) then ((token_Cut.f k x0).bind fun t232 => (some (decide ((t232.length : Int) ≤ (x0.size : Int))))) else (some false)) else (if x1 = 10 then (if (t106.length : Int) = (wrap64 (x2)) then ((token_Cut.f k x0).bind fun t235 => (some (decide ((t235.length : Int) ≤ (x0.size : Int))))) else (some false)) else (if x1 = 13 then (if (t106.length : Int) = (wrap64 (x2)) then ((token_Cut.f k x0).bind fun t238 => (some (decide ((t238.length : Int) ≤ (x0.size : Int))))) else (some false)) else (if (t106.length : Int) = (mn (wrap64 (x2)) 1) then ((token_Cut.f k x0).bind fun t241 => (some (decide ((t241.length : Int) ≤ (x0.size : Int))))) else (some false))))) else (if x1 = 10 then (if (t106.length : Int) = (wrap64 (x2)) then ((token_Cut.f k x0).bind fun t244 => (some (decide ((t244.length : Int) ≤ (x0.size : Int))))) else (some false)) else (if x1 = 13 then (if (t106.length : Int) = (wrap64 (x2)) then ((token_Cut.f k x0).bind fun t247 => (some (decide ((t247.length : Int) ≤ (x0.size : Int))))) else (some false)) else (if (t106.length : Int) = (mn (wrap64 (x2)) 1) then ((token_Cut.f k x0).bind fun t250 => (some (decide ((t250.length : Int) ≤ (x0.size : Int))))) else (some false))))))) else (if x1 > 90 then (if x1 < 97 then (if (t106.length : Int) = (wrap64 (x2)) then ((token_Cut.f k x0).bind fun t253 => (some (decide ((t253.length : Int) ≤ (x0.size : Int))))) else (some false)) else (if x1 > 122 then (if x1 < 127 then (if (t106.length : Int) = (wrap64 (x2)) then ((token_Cut.f k x0).bind fun t256 => (some (decide ((t256.length : Int) ≤ (x0.size : Int))))) else (some false)) else (if x1 = 10 then (if (t106.length : Int) = (wrap64 (x2)) then ((token_Cut.f k x0).bind fun t259 => (some (decide ((t259.length : Int) ≤ (x0.size : Int))))) else (some false)) else (if x1 = 13 then (if (t106.length : Int) = (wrap64 (x2)) then ((token_Cut.f k x0).bind fun t262 => (some (decide ((t262.length : Int) ≤ (x0.size : Int))))) else (some false)) else (if (t106.length : Int) = (mn (wrap64 (x2)) 1) then ((token_Cut.f k x0).bind fun t265 => (some (decide ((t265.length : Int) ≤ (x0.size : Int))))) else (some false))))) else (if x1 = 10 then (if (t106.length : Int) = (wrap64 (x2)) then ((token_Cut.f k x0).bind fun t268 => (some (decide ((t268.length : Int) ≤ (x0.size : Int))))) else (some false)) else (if x1 = 13 then (if (t106.length : Int) = (wrap64 (x2)) then ((token_Cut.f k x0).bind fun t271 => (some (decide ((t271.length : Int) ≤ (x0.size : Int))))) else (some false)) else (if (t106.length : Int) = (mn (wrap64 (x2)) 1) then ((token_Cut.f k x0).bind fun t274 => (some (decide ((t274.length : Int) ≤ (x0.size : Int))))) else (some false)))))) else (if x1 > 122 then (if x1 < 127 then (if (t106.length : Int) = (wrap64 (x2)) then ((token_Cut.f k x0).bind fun t277 => (some (decide ((t277.length : Int) ≤ (x0.size : Int))))) else (some false)) else (if x1 = 10 then (if (t106.length : Int) = (wrap64 (x2)) then ((token_Cut.f k x0).bind fun t280 => (some (decide ((t280.length : Int) ≤ (x0.size : Int))))) else (some false)) else (if x1 = 13 then (if (t106.length : Int) = (wrap64 (x2)) then ((token_Cut.f k x0).bind fun t283 => (some (decide ((t283.length : Int) ≤ (x0.size : Int))))) else (some false)) else (if (t106.length : Int) = (mn (wrap64 (x2)) 1) then ((token_Cut.f k x0).bind fun t286 => (some (decide ((t286.length : Int) ≤ (x0.size : Int))))) else (some false))))) else (if x1 = 10 then (if (t106.length : Int) = (wrap64 (x2)) then ((token_Cut.f k x0).bind fun t289 => (some (decide ((t289.length : Int) ≤ (x0.size : Int))))) else (some false)) else (if x1 = 13 then (if (t106.length : Int) = (wrap64 (x2)) then ((token_Cut.f k x0).bind fun t292 => (some (decide ((t292.length : Int) ≤ (x0.size : Int))))) else (some false)) else (if (t106.length : Int) = (mn (wrap64 (x2)) 1) then ((token_Cut.f k x0).bind fun t295 => (some (decide ((t295.length : Int) ≤ (x0.size : Int))))) else (some false)))))))))
end
def emendationlaw03_TokenCounts.f (k : Nat) (a0 : ByteArray) (a1 : Int) (a2 : Int) : Option (Bool) := (emendationlaw03_awake.f k).bind fun t101 => (if t101 = true then (emendationlaw03_TokenCounts.j0 k a0 a1 a2 (decide ((a0.size : Int) > 2000))) else (emendationlaw03_TokenCounts.j0 k a0 a1 a2 true))
theorem emendationlaw03_TokenCounts.mono_l : ∀ k, (∀ y0 y1 y2 y3, LeO (emendationlaw03_TokenCounts.j0 k y0 y1 y2 y3) (emendationlaw03_TokenCounts.j0 (k + 1) y0 y1 y2 y3)) ∧ (∀ y0 y1 y2 y3 y4 y5, LeO (emendationlaw03_TokenCounts.l0 k y0 y1 y2 y3 y4 y5) (emendationlaw03_TokenCounts.l0 (k + 1) y0 y1 y2 y3 y4 y5))
  | 0 => ⟨fun _ _ _ _ r h => by simp [emendationlaw03_TokenCounts.j0] at h, fun _ _ _ _ _ _ r h => by simp [emendationlaw03_TokenCounts.l0] at h⟩
  | k + 1 => by
    obtain ⟨ih0, ih1⟩ := emendationlaw03_TokenCounts.mono_l k
    refine ⟨?_, ?_⟩
    · intro y0 y1 y2 y3
      unfold emendationlaw03_TokenCounts.j0
      repeat' first
      | (with_reducible exact ih0 _ _ _ _)
      | (with_reducible exact ih1 _ _ _ _ _ _)
      | (with_reducible exact emendationlaw03_awake.mono _)
      | (with_reducible exact token_Cut.mono _ _)
      | (with_reducible exact LeO.refl _)
      | (with_reducible exact LeO.none _)
      | (with_reducible refine LeO.ite ?_ ?_)
      | (with_reducible refine LeO.bind ?_ (fun _ => ?_))
      | exact ih0 _ _ _ _
      | exact ih1 _ _ _ _ _ _
      | exact emendationlaw03_awake.mono _
      | exact token_Cut.mono _ _
      | exact LeO.none _
      | refine LeO.ite ?_ ?_
      | refine LeO.bind ?_ (fun _ => ?_)
    · intro y0 y1 y2 y3 y4 y5
      unfold emendationlaw03_TokenCounts.l0
      repeat' first
      | (with_reducible exact ih0 _ _ _ _)
      | (with_reducible exact ih1 _ _ _ _ _ _)
      | (with_reducible exact emendationlaw03_awake.mono _)
      | (with_reducible exact token_Cut.mono _ _)
      | (with_reducible exact LeO.refl _)
      | (with_reducible exact LeO.none _)
      | (with_reducible refine LeO.ite ?_ ?_)
      | (with_reducible refine LeO.bind ?_ (fun _ => ?_))
      | exact ih0 _ _ _ _
      | exact ih1 _ _ _ _ _ _
      | exact emendationlaw03_awake.mono _
      | exact token_Cut.mono _ _
      | exact LeO.none _
      | refine LeO.ite ?_ ?_
      | refine LeO.bind ?_ (fun _ => ?_)
theorem emendationlaw03_TokenCounts.mono : ∀ a0 a1 a2 k, LeO (emendationlaw03_TokenCounts.f k a0 a1 a2) (emendationlaw03_TokenCounts.f (k + 1) a0 a1 a2) := by
  intro a0 a1 a2 k
  obtain ⟨ih0, ih1⟩ := emendationlaw03_TokenCounts.mono_l k
  unfold emendationlaw03_TokenCounts.f
  repeat' first
      | (with_reducible exact ih0 _ _ _ _)
      | (with_reducible exact ih1 _ _ _ _ _ _)
      | (with_reducible exact emendationlaw03_awake.mono _)
      | (with_reducible exact token_Cut.mono _ _)
      | (with_reducible exact LeO.refl _)
      | (with_reducible exact LeO.none _)
      | (with_reducible refine LeO.ite ?_ ?_)
      | (with_reducible refine LeO.bind ?_ (fun _ => ?_))
      | exact ih0 _ _ _ _
      | exact ih1 _ _ _ _ _ _
      | exact emendationlaw03_awake.mono _
      | exact token_Cut.mono _ _
      | exact LeO.none _
      | refine LeO.ite ?_ ?_
      | refine LeO.bind ?_ (fun _ => ?_)
set_option maxHeartbeats 8000000 in
set_option maxRecDepth 100000 in
theorem emendationlaw03_TokenCounts.calls (k : Nat) (a0 : ByteArray) (a1 : Int) (a2 : Int) (r : Bool) (w : World) (h : emendationlaw03_TokenCounts.f k a0 a1 a2 = some r) :
  Calls Try.prog 4 #[.string a0, .int .u8 a1, .int .u8 a2] w fun e w' => e = .returned (.bool r) ∧ Below w.heap.size w w' := by
 have HB := Aside0.mk (Below.refl w.heap.size w)
 have H : ((emendationlaw03_awake.f k).bind fun t101 => (if t101 = true then (emendationlaw03_TokenCounts.j0 k a0 a1 a2 (decide ((a0.size : Int) > 2000))) else (emendationlaw03_TokenCounts.j0 k a0 a1 a2 true))) = some r := h
 clear h
 have HC4 := Aside0.mk H
 clear H
 go_enter Try.func4, Try.ntmps4
 go_upto_region 1 with (fail)
 go_cut [17] (fun v17 wc => ∃ (kq : Nat) (x17_3 : Bool), v17 = .bool x17_3 ∧ Aside0 (emendationlaw03_TokenCounts.j0 kq a0 a1 a2 x17_3 = some r) ∧ Aside0 (kq ≤ k) ∧ Aside0 (Below w.heap.size w wc))
 case first =>
  have H := HC4.out
  clear HC4
  replace H := Option.bind_eq_some_iff.mp H
  obtain ⟨t101, A50, H⟩ := H
  replace H : (if t101 = true then (emendationlaw03_TokenCounts.j0 k a0 a1 a2 (decide ((a0.size : Int) > 2000))) else (emendationlaw03_TokenCounts.j0 k a0 a1 a2 true)) = some r := H
  have A5 := Aside0.mk A50
  clear A50
  by_cases c6 : t101 = true
  ·
   subst c6
   have H1 : (emendationlaw03_TokenCounts.j0 k a0 a1 a2 (decide ((a0.size : Int) > 2000))) = some r := by rw [if_pos rfl] at H; exact H
   clear H
   have H := H1
   clear H1
   have H' := Aside0.mk H
   clear H
   go_wp2_with (first | ((with_reducible refine gate_callee (f := 26) rfl ?_); refine goesL_ (some 11) rfl rfl Try.func26 (by kernel_rfl) rfl #[] rfl (by (try simp only [List.map_toArray, List.map_cons, List.map_nil]); first | done | rfl | (simp only [List.length_drop, List.length_take]; rfl)) ?_; (with_reducible refine (emendationlaw03_awake.calls k  true _ A5.out).mono ?_); rintro e w7 ⟨rfl, hb⟩; refine ⟨_, rfl, ?_⟩; have n0_ := Aside0.mk (below_step (by repeat (first | (with_reducible first | exact HB.out | apply below_alloc | apply pw_below_drewN | apply below_drew1) | exact HB.out)) hb); clear HB; have HB := n0_; clear n0_; (try clear hb); (try clear hb2); (try clear hk); (try clear hi)))
   go_meet
   case rel => exact ⟨_, (decide ((a0.size : Int) > 2000)), (by first | rfl | (simp; done) | (simp [*]; done)), H', ⟨by first | omega | exact Nat.le_refl _⟩, ⟨by repeat (first | (with_reducible first | exact HB.out | apply below_alloc | apply pw_below_drewN | apply below_drew1) | exact HB.out)⟩⟩
  ·
   replace c6 := Bool.eq_false_iff.mpr c6
   subst c6
   have H1 : (emendationlaw03_TokenCounts.j0 k a0 a1 a2 true) = some r := by rw [if_neg (show ¬ (false = true) by decide)] at H; exact H
   clear H
   have H := H1
   clear H1
   have H' := Aside0.mk H
   clear H
   go_wp2_with (first | ((with_reducible refine gate_callee (f := 26) rfl ?_); refine goesL_ (some 11) rfl rfl Try.func26 (by kernel_rfl) rfl #[] rfl (by (try simp only [List.map_toArray, List.map_cons, List.map_nil]); first | done | rfl | (simp only [List.length_drop, List.length_take]; rfl)) ?_; (with_reducible refine (emendationlaw03_awake.calls k  false _ A5.out).mono ?_); rintro e w8 ⟨rfl, hb⟩; refine ⟨_, rfl, ?_⟩; have n0_ := Aside0.mk (below_step (by repeat (first | (with_reducible first | exact HB.out | apply below_alloc | apply pw_below_drewN | apply below_drew1) | exact HB.out)) hb); clear HB; have HB := n0_; clear n0_; (try clear hb); (try clear hb2); (try clear hk); (try clear hi)))
   go_meet
   case rel => exact ⟨_, (true), (by first | rfl | (simp; done) | (simp [*]; done)), H', ⟨by first | omega | exact Nat.le_refl _⟩, ⟨by repeat (first | (with_reducible first | exact HB.out | apply below_alloc | apply pw_below_drewN | apply below_drew1) | exact HB.out)⟩⟩
 case rest =>
  clear HC4
  try clear c2
  try clear p2
  try clear c4
  try clear c6
  obtain ⟨kq, x17_3, rfl, HA, HJ3, HB⟩ := hcut
  cases kq with
  | zero => exact absurd HA.out (by simp [emendationlaw03_TokenCounts.j0])
  | succ kj3 =>
   have H := HA.out
   clear HA
   simp only [emendationlaw03_TokenCounts.j0] at H
   by_cases c9 : x17_3 = true
   ·
    subst c9
    have H1 : ((emendationlaw03_awake.f kj3).bind fun t102 => (some t102)) = some r := by rw [if_pos rfl] at H; exact H
    clear H
    have H := H1
    clear H1
    replace H := Option.bind_eq_some_iff.mp H
    obtain ⟨t102, A100, H⟩ := H
    replace H : (some t102) = some r := H
    have A10 := Aside0.mk A100
    clear A100
    obtain rfl := Option.some.inj H
    go_wp2_with (first | ((with_reducible refine gate_callee (f := 26) rfl ?_); refine goesL_ (some 18) rfl rfl Try.func26 (by kernel_rfl) rfl #[] rfl (by (try simp only [List.map_toArray, List.map_cons, List.map_nil]); first | done | rfl | (simp only [List.length_drop, List.length_take]; rfl)) ?_; (with_reducible refine (emendationlaw03_awake.calls kj3  t102 _ A10.out).mono ?_); rintro e w11 ⟨rfl, hb⟩; refine ⟨_, rfl, ?_⟩; have n0_ := Aside0.mk (below_step (by repeat (first | (with_reducible first | exact HB.out | apply below_alloc | apply pw_below_drewN | apply below_drew1) | exact HB.out)) hb); clear HB; have HB := n0_; clear n0_; (try clear hb); (try clear hb2); (try clear hk); (try clear hi)))
    go_ret
    exact ⟨by first | rfl | (simp [errW_none, errW_some] <;> rfl) | (simp [*, errW_none, errW_some] <;> rfl), by repeat (first | (with_reducible first | exact HB.out | apply below_alloc | apply pw_below_drewN | apply below_drew1) | exact HB.out)⟩
   ·
    replace c9 := Bool.eq_false_iff.mpr c9
    subst c9
    have H1 : (emendationlaw03_TokenCounts.l0 kj3 a0 a1 a2 (⟨#[]⟩ : ByteArray) a2 0) = some r := by rw [if_neg (show ¬ (false = true) by decide)] at H; exact H
    clear H
    have H := H1
    clear H1
    have H' := Aside0.mk H
    clear H
    go_wp2
    go_loopg [7, 20] kj3 (fun kq v7 v20 w' => ∃ (x7_2 : ByteArray) (x20_2 : Int), v7 = .string x7_2 ∧ v20 = .int .u8 x20_2 ∧ Aside0 (emendationlaw03_TokenCounts.l0 kq a0 a1 a2 x7_2 a2 x20_2 = some r) ∧ Aside0 (kq ≤ kj3) ∧ Aside0 (Below w.heap.size w w'))
    case atStart => exact ⟨((⟨#[]⟩ : ByteArray)), (0), (by first | rfl | (simp; done) | (simp [*]; done)), (by first | rfl | (simp; done) | (simp [*]; done)), H', ⟨Nat.le_refl _⟩, ⟨by repeat (first | (with_reducible first | exact HB.out | apply below_alloc | apply pw_below_drewN | apply below_drew1) | exact HB.out)⟩⟩
    case round =>
     clear H'
     try clear c2
     try clear p2
     try clear c4
     try clear c6
     try clear c9
     try clear p2
     obtain ⟨x7_2, x20_2, rfl, rfl, HA, HK2, HB⟩ := hrel
     cases gk with
     | zero => exact absurd HA.out (by simp [emendationlaw03_TokenCounts.l0])
     | succ k2 =>
      have H := HA.out
      clear HA
      simp only [emendationlaw03_TokenCounts.l0] at H
      by_cases c12 : x20_2 < a2
      ·
       rw [if_pos c12] at H
       have c12b0 : decide (x20_2 < a2) = true := decide_eq_true c12
       clear c12
       obtain ⟨y103, hy103⟩ : ∃ y_ : List Int, y_ = (([a1] : List Int)) := ⟨_, rfl⟩
       replace H : (if x7_2.size + (strOfNums y103).size ≤ 9223372036854775807 then (emendationlaw03_TokenCounts.l0 k2 a0 a1 a2 (x7_2 ++ (strOfNums y103)) a2 ((x20_2 + 1) % 256)) else (none)) = some r := by first | (rw [hy103]; with_reducible exact H) | (have H2_ := (Option.bind_some _ _).symm.trans H; rw [hy103]; with_reducible exact H2_) | (have H2_ := (Option.bind_some _ _).symm.trans H; with_reducible exact H2_) | with_reducible exact H | (rw [hy103]; exact H) | exact H
       have Ny103 := Aside0.mk hy103
       clear hy103
       by_cases c13 : x7_2.size + (strOfNums y103).size ≤ 9223372036854775807
       ·
        rw [if_pos c13] at H
        have c13b0 := eq_true c13
        have c13b1 : decide (x7_2.size + (strOfNums y103).size ≤ 9223372036854775807) = true := decide_eq_true c13
        try have c13b2 : (9223372036854775807 < x7_2.size + (strOfNums y103).size) = False := eq_false (Nat.not_lt.2 c13)
        have H' := Aside0.mk H
        clear H
        go_wp2_with (first | ((with_reducible refine gate_dst (N := 24) rfl ?_); (try (refine gate_guard (by rfl) ?_; dsimp only)); refine Kd.R_lit (Kd.int .u8) _ 5 ?hg (N := 24) ?hd (xs := ([a1] : List Int)) (inner := [.int .u8 a1]) (ok := fun _ => True) (okp := fun _ => True) ?hr ?hp (fun _ hk => hk) trivial (Below.refl _ _) (Nat.le_refl _) (by simp) ?_; (case hd => rfl); (case hg => rfl); (case hr => first | (go_simp; done) | (go_simp; rfl)); (case hp => exact (Reps.one (show Kd.M (Kd.int .u8) _ _ _ a1 [.int .u8 a1] from rfl) (Reps.none _ _))); intro v104 w14 ho15 hb hg_ hnew_; clear hg_ hnew_; (first | rw [← Ny103.out] at ho15 | (simp only [Int.reduceToNat] at ho15; rw [← Ny103.out] at ho15)); have n0_ := Aside0.mk (Kd.R_lower ho15 (below_size (by repeat (first | (with_reducible first | exact HB.out | apply below_alloc | apply pw_below_drewN | apply below_drew1) | exact HB.out)))); have n1_ := Aside0.mk (below_step (by repeat (first | (with_reducible first | exact HB.out | apply below_alloc | apply pw_below_drewN | apply below_drew1) | exact HB.out)) hb); clear HB; have HO105 := n0_; have HB := n1_; clear n0_ n1_; clear hb ho15; have hcv16 := own_string (P := Try.prog) Try.underlying27 Try.underlying5 Try.underlying9 (Kd.own_of_R HO105.out)))
        go_roundg k2
        case measure => have := HJ3.out; have := HK2.out; omega
        case rel => exact ⟨(x7_2 ++ (strOfNums y103)), ((x20_2 + 1) % 256), (by first | rfl | (simp; done) | (simp [*]; done)), (by first | rfl | (simp; done) | (simp [*]; done)), H', ⟨by have := HJ3.out; have := HK2.out; omega⟩, ⟨by repeat (first | (with_reducible first | exact HB.out | apply below_alloc | apply pw_below_drewN | apply below_drew1) | exact HB.out)⟩⟩
       ·
        rw [if_neg c13] at H
        exact absurd H (by simp)
      ·
       rw [if_neg c12] at H
       have c12b0 : decide (x20_2 < a2) = false := decide_eq_false c12
       clear c12
       replace H := Option.bind_eq_some_iff.mp H
       obtain ⟨t106, A170, H⟩ := H
       replace H : (if a1 > 32 then (if a1 < 48 then (if (t106.length : Int) = (wrap64 (a2)) then ((token_Cut.f k2 a0).bind fun t109 => (some (decide ((t109.length : Int) ≤ (a0.size : Int))))) else (some false)) else (if a1 > 57 then (if a1 < 65 then (if (t106.length : Int) = (wrap64 (a2)) then ((token_Cut.f k2 a0).bind fun t112 => (some (decide ((t112.length : Int) ≤ (a0.size : Int))))) else (some false)) else (if a1 > 90 then (if a1 < 97 then (if (t106.length : Int) = (wrap64 (a2)) then ((token_Cut.f k2 a0).bind fun t115 => (some (decide ((t115.length : Int) ≤ (a0.size : Int))))) else (some false)) else (if a1 > 122 then (if a1 < 127 then (if (t106.length : Int) = (wrap64 (a2)) then ((token_Cut.f k2 a0).bind fun t118 => (some (decide ((t118.length : Int) ≤ (a0.size : Int))))) else (some false)) else (if a1 = 10 then (if (t106.length : Int) = (wrap64 (a2)) then ((token_Cut.f k2 a0).bind fun t121 => (some (decide ((t121.length : Int) ≤ (a0.size : Int))))) else (some false)) else (if a1 = 13 then (if (t106.length : Int) = (wrap64 (a2)) then ((token_Cut.f k2 a0).bind fun t124 => (some (decide ((t124.length : Int) ≤ (a0.size : Int))))) else (some false)) else (if (t106.length : Int) = (mn (wrap64 (a2)) 1) then ((token_Cut.f k2 a0).bind fun t127 => (some (decide ((t127.length : Int) ≤ (a0.size : Int))))) else (some false))))) else (if a1 = 10 then (if (t106.length : Int) = (wrap64 (a2)) then ((token_Cut.f k2 a0).bind fun t130 => (some (decide ((t130.length : Int) ≤ (a0.size : Int))))) else (some false)) else (if a1 = 13 then (if (t106.length : Int) = (wrap64 (a2)) then ((token_Cut.f k2 a0).bind fun t133 => (some (decide ((t133.length : Int) ≤ (a0.size : Int))))) else (some false)) else (if (t106.length : Int) = (mn (wrap64 (a2)) 1) then ((token_Cut.f k2 a0).bind fun t136 => (some (decide ((t136.length : Int) ≤ (a0.size : Int))))) else (some false)))))) else (if a1 > 122 then (if a1 < 127 then (if (t106.length : Int) = (wrap64 (a2)) then ((token_Cut.f k2 a0).bind fun t139 => (some (decide ((t139.length : Int) ≤ (a0.size : Int))))) else (some false)) else (if a1 = 10 then (if (t106.length : Int) = (wrap64 (a2)) then ((token_Cut.f k2 a0).bind fun t142 => (some (decide ((t142.length : Int) ≤ (a0.size : Int))))) else (some false)) else (if a1 = 13 then (if (t106.length : Int) = (wrap64 (a2)) then ((token_Cut.f k2 a0).bind fun t145 => (some (decide ((t145.length : Int) ≤ (a0.size : Int))))) else (some false)) else (if (t106.length : Int) = (mn (wrap64 (a2)) 1) then ((token_Cut.f k2 a0).bind fun t148 => (some (decide ((t148.length : Int) ≤ (a0.size : Int))))) else (some false))))) else (if a1 = 10 then (if (t106.length : Int) = (wrap64 (a2)) then ((token_Cut.f k2 a0).bind fun t151 => (some (decide ((t151.length : Int) ≤ (a0.size : Int))))) else (some false)) else (if a1 = 13 then (if (t106.length : Int) = (wrap64 (a2)) then ((token_Cut.f k2 a0).bind fun t154 => (some (decide ((t154.length : Int) ≤ (a0.size : Int))))) else (some false)) else (if (t106.length : Int) = (mn (wrap64 (a2)) 1) then ((token_Cut.f k2 a0).bind fun t157 => (some (decide ((t157.length : Int) ≤ (a0.size : Int))))) else (some false))))))) else (if a1 > 90 then (if a1 < 97 then (if (t106.length : Int) = (wrap64 (a2)) then ((token_Cut.f k2 a0).bind fun t160 => (some (decide ((t160.length : Int) ≤ (a0.size : Int))))) else (some false)) else (if a1 > 122 then (if a1 < 127 then (if (t106.length : Int) = (wrap64 (a2)) then ((token_Cut.f k2 a0).bind fun t163 => (some (decide ((t163.length : Int) ≤ (a0.size : Int))))) else (some false)) else (if a1 = 10 then (if (t106.length : Int) = (wrap64 (a2)) then ((token_Cut.f k2 a0).bind fun t166 => (some (decide ((t166.length : Int) ≤ (a0.size : Int))))) else (some false)) else (if a1 = 13 then (if (t106.length : Int) = (wrap64 (a2)) then ((token_Cut.f k2 a0).bind fun t169 => (some (decide ((t169.length : Int) ≤ (a0.size : Int))))) else (some false)) else (if (t106.length : Int) = (mn (wrap64 (a2)) 1) then ((token_Cut.f k2 a0).bind fun t172 => (some (decide ((t172.length : Int) ≤ (a0.size : Int))))) else (some false))))) else (if a1 = 10 then (if (t106.length : Int) = (wrap64 (a2)) then ((token_Cut.f k2 a0).bind fun t175 => (some (decide ((t175.length : Int) ≤ (a0.size : Int))))) else (some false)) else (if a1 = 13 then (if (t106.length : Int) = (wrap64 (a2)) then ((token_Cut.f k2 a0).bind fun t178 => (some (decide ((t178.length : Int) ≤ (a0.size : Int))))) else (some false)) else (if (t106.length : Int) = (mn (wrap64 (a2)) 1) then ((token_Cut.f k2 a0).bind fun t181 => (some (decide ((t181.length : Int) ≤ (a0.size : Int))))) else (some false)))))) else (if a1 > 122 then (if a1 < 127 then (if (t106.length : Int) = (wrap64 (a2)) then ((token_Cut.f k2 a0).bind fun t184 => (some (decide ((t184.length : Int) ≤ (a0.size : Int))))) else (some false)) else (if a1 = 10 then (if (t106.length : Int) = (wrap64 (a2)) then ((token_Cut.f k2 a0).bind fun t187 => (some (decide ((t187.length : Int) ≤ (a0.size : Int))))) else (some false)) else (if a1 = 13 then (if (t106.length : Int) = (wrap64 (a2)) then ((token_Cut.f k2 a0).bind fun t190 => (some (decide ((t190.length : Int) ≤ (a0.size : Int))))) else (some false)) else (if (t106.length : Int) = (mn (wrap64 (a2)) 1) then ((token_Cut.f k2 a0).bind fun t193 => (some (decide ((t193.length : Int) ≤ (a0.size : Int))))) else (some false))))) else (if a1 = 10 then (if (t106.length : Int) = (wrap64 (a2)) then ((token_Cut.f k2 a0).bind fun t196 => (some (decide ((t196.length : Int) ≤ (a0.size : Int))))) else (some false)) else (if a1 = 13 then (if (t106.length : Int) = (wrap64 (a2)) then ((token_Cut.f k2 a0).bind fun t199 => (some (decide ((t199.length : Int) ≤ (a0.size : Int))))) else (some false)) else (if (t106.length : Int) = (mn (wrap64 (a2)) 1) then ((token_Cut.f k2 a0).bind fun t202 => (some (decide ((t202.length : Int) ≤ (a0.size : Int))))) else (some false)))))))) else (if a1 > 57 then (if a1 < 65 then (if (t106.length : Int) = (wrap64 (a2)) then ((token_Cut.f k2 a0).bind fun t205 => (some (decide ((t205.length : Int) ≤ (a0.size : Int))))) else (some false)) else (if a1 > 90 then (if a1 < 97 then (if (t106.length : Int) = (wrap64 (a2)) then ((token_Cut.f k2 a0).bind fun t208 => (some (decide ((t208.length : Int) ≤ (a0.size : Int))))) else (some false)) else (if a1 > 122 then (if a1 < 127 then (if (t106.length : Int) = (wrap64 (a2)) then ((token_Cut.f k2 a0).bind fun t211 => (some (decide ((t211.length : Int) ≤ (a0.size : Int))))) else (some false)) else (if a1 = 10 then (if (t106.length : Int) = (wrap64 (a2)) then ((token_Cut.f k2 a0).bind fun t214 => (some (decide ((t214.length : Int) ≤ (a0.size : Int))))) else (some false)) else (if a1 = 13 then (if (t106.length : Int) = (wrap64 (a2)) then ((token_Cut.f k2 a0).bind fun t217 => (some (decide ((t217.length : Int) ≤ (a0.size : Int))))) else (some false)) else (if (t106.length : Int) = (mn (wrap64 (a2)) 1) then ((token_Cut.f k2 a0).bind fun t220 => (some (decide ((t220.length : Int) ≤ (a0.size : Int))))) else (some false))))) else (if a1 = 10 then (if (t106.length : Int) = (wrap64 (a2)) then ((token_Cut.f k2 a0).bind fun t223 => (some (decide ((t223.length : Int) ≤ (a0.size : Int))))) else (some false)) else (if a1 = 13 then (if (t106.length : Int) = (wrap64 (a2)) then ((token_Cut.f k2 a0).bind fun t226 => (some (decide ((t226.length : Int) ≤ (a0.size : Int))))) else (some false)) else (if (t106.length : Int) = (mn (wrap64 (a2)) 1) then ((token_Cut.f k2 a0).bind fun t229 => (some (decide ((t229.length : Int) ≤ (a0.size : Int))))) else (some false)))))) else (if a1 > 122 then (if a1 < 127 then (if (t106.length : Int) = (wrap64 (a2)) then ((token_Cut.f k2 a0).bind fun t232 => (some (decide ((t232.length : Int) ≤ (a0.size : Int))))) else (some false)) else (if a1 = 10 then (if (t106.length : Int) = (wrap64 (a2)) then ((token_Cut.f k2 a0).bind fun t235 => (some (decide ((t235.length : Int) ≤ (a0.size : Int))))) else (some false)) else (if a1 = 13 then (if (t106.length : Int) = (wrap64 (a2)) then ((token_Cut.f k2 a0).bind fun t238 => (some (decide ((t238.length : Int) ≤ (a0.size : Int))))) else (some false)) else (if (t106.length : Int) = (mn (wrap64 (a2)) 1) then ((token_Cut.f k2 a0).bind fun t241 => (some (decide ((t241.length : Int) ≤ (a0.size : Int))))) else (some false))))) else (if a1 = 10 then (if (t106.length : Int) = (wrap64 (a2)) then ((token_Cut.f k2 a0).bind fun t244 => (some (decide ((t244.length : Int) ≤ (a0.size : Int))))) else (some false)) else (if a1 = 13 then (if (t106.length : Int) = (wrap64 (a2)) then ((token_Cut.f k2 a0).bind fun t247 => (some (decide ((t247.length : Int) ≤ (a0.size : Int))))) else (some false)) else (if (t106.length : Int) = (mn (wrap64 (a2)) 1) then ((token_Cut.f k2 a0).bind fun t250 => (some (decide ((t250.length : Int) ≤ (a0.size : Int))))) else (some false))))))) else (if a1 > 90 then (if a1 < 97 then (if (t106.length : Int) = (wrap64 (a2)) then ((token_Cut.f k2 a0).bind fun t253 => (some (decide ((t253.length : Int) ≤ (a0.size : Int))))) else (some false)) else (if a1 > 122 then (if a1 < 127 then (if (t106.length : Int) = (wrap64 (a2)) then ((token_Cut.f k2 a0).bind fun t256 => (some (decide ((t256.length : Int) ≤ (a0.size : Int))))) else (some false)) else (if a1 = 10 then (if (t106.length : Int) = (wrap64 (a2)) then ((token_Cut.f k2 a0).bind fun t259 => (some (decide ((t259.length : Int) ≤ (a0.size : Int))))) else (some false)) else (if a1 = 13 then (if (t106.length : Int) = (wrap64 (a2)) then ((token_Cut.f k2 a0).bind fun t262 => (some (decide ((t262.length : Int) ≤ (a0.size : Int))))) else (some false)) else (if (t106.length : Int) = (mn (wrap64 (a2)) 1) then ((token_Cut.f k2 a0).bind fun t265 => (some (decide ((t265.length : Int) ≤ (a0.size : Int))))) else (some false))))) else (if a1 = 10 then (if (t106.length : Int) = (wrap64 (a2)) then ((token_Cut.f k2 a0).bind fun t268 => (some (decide ((t268.length : Int) ≤ (a0.size : Int))))) else (some false)) else (if a1 = 13 then (if (t106.length : Int) = (wrap64 (a2)) then ((token_Cut.f k2 a0).bind fun t271 => (some (decide ((t271.length : Int) ≤ (a0.size : Int))))) else (some false)) else (if (t106.length : Int) = (mn (wrap64 (a2)) 1) then ((token_Cut.f k2 a0).bind fun t274 => (some (decide ((t274.length : Int) ≤ (a0.size : Int))))) else (some false)))))) else (if a1 > 122 then (if a1 < 127 then (if (t106.length : Int) = (wrap64 (a2)) then ((token_Cut.f k2 a0).bind fun t277 => (some (decide ((t277.length : Int) ≤ (a0.size : Int))))) else (some false)) else (if a1 = 10 then (if (t106.length : Int) = (wrap64 (a2)) then ((token_Cut.f k2 a0).bind fun t280 => (some (decide ((t280.length : Int) ≤ (a0.size : Int))))) else (some false)) else (if a1 = 13 then (if (t106.length : Int) = (wrap64 (a2)) then ((token_Cut.f k2 a0).bind fun t283 => (some (decide ((t283.length : Int) ≤ (a0.size : Int))))) else (some false)) else (if (t106.length : Int) = (mn (wrap64 (a2)) 1) then ((token_Cut.f k2 a0).bind fun t286 => (some (decide ((t286.length : Int) ≤ (a0.size : Int))))) else (some false))))) else (if a1 = 10 then (if (t106.length : Int) = (wrap64 (a2)) then ((token_Cut.f k2 a0).bind fun t289 => (some (decide ((t289.length : Int) ≤ (a0.size : Int))))) else (some false)) else (if a1 = 13 then (if (t106.length : Int) = (wrap64 (a2)) then ((token_Cut.f k2 a0).bind fun t292 => (some (decide ((t292.length : Int) ≤ (a0.size : Int))))) else (some false)) else (if (t106.length : Int) = (mn (wrap64 (a2)) 1) then ((token_Cut.f k2 a0).bind fun t295 => (some (decide ((t295.length : Int) ≤ (a0.size : Int))))) else (some false)))))))) = some r := H
       have A17 := Aside0.mk A170
       clear A170
       by_cases c18 : a1 > 32
       ·
        rw [if_pos c18] at H
        have c18b0 : decide (32 < a1) = true := decide_eq_true c18
        clear c18
        by_cases c19 : a1 < 48
        ·
         rw [if_pos c19] at H
         have c19b0 : decide (a1 < 48) = true := decide_eq_true c19
         clear c19
         obtain ⟨ji20, hji20⟩ : ∃ j_ : Int, (mn (wrap64 (a2)) 1) = j_ := ⟨_, rfl⟩
         replace H : (if (t106.length : Int) = (wrap64 (a2)) then ((token_Cut.f k2 a0).bind fun t109 => (some (decide ((t109.length : Int) ≤ (a0.size : Int))))) else (some false)) = some r := by first | (rw [hji20] at H; exact H) | (simp only [hji20] at H ⊢; exact H) | exact H
         (try rw [hji20] at A17)
         have hji20_ : (if 1 < (wrap64 (a2)) then 1 else (wrap64 (a2))) = ji20 := hji20
         by_cases c21 : (t106.length : Int) = (wrap64 (a2))
         ·
          rw [if_pos c21] at H
          have c21b0 : ((t106.length : Int) == (wrap64 (a2))) = true := beq_iff_eq.mpr c21
          have c21b1 : ((t106.length : Int) != (wrap64 (a2))) = false := bne_eq_false_iff_eq.mpr c21
          clear c21
          replace H := Option.bind_eq_some_iff.mp H
          obtain ⟨t109, A220, H⟩ := H
          replace H : (some (decide ((t109.length : Int) ≤ (a0.size : Int)))) = some r := H
          have A22 := Aside0.mk A220
          clear A220
          obtain rfl := Option.some.inj H
          go_wp2_with (first | ((with_reducible refine gate_callee (f := 28) rfl ?_); refine goesL_ (some 29) rfl rfl Try.func28 (by kernel_rfl) rfl #[.string x7_2] rfl (by (try simp only [List.map_toArray, List.map_cons, List.map_nil]); first | done | rfl | (simp only [List.length_drop, List.length_take]; rfl)) ?_; (with_reducible refine (token_Cut.calls k2 x7_2 t106 _ A17.out).mono ?_); rintro e w23 ⟨v107, rfl, ho0, hb⟩; refine ⟨_, rfl, ?_⟩; have n0_ := Aside0.mk (Kd.R_lower ho0 (below_size (by repeat (first | (with_reducible first | exact HB.out | apply below_alloc | apply pw_below_drewN | apply below_drew1) | exact HB.out)))); have n1_ := Aside0.mk (below_step (by repeat (first | (with_reducible first | exact HB.out | apply below_alloc | apply pw_below_drewN | apply below_drew1) | exact HB.out)) hb); clear HB; have HO108 := n0_; have HB := n1_; clear n0_ n1_; (try clear hb); (try clear hb2); (try clear hk); (try clear hi); (try clear ho0); obtain ⟨Ao24, co24, eo24⟩ := Kd.R_slice HO108.out; subst eo24) | (go_at_call 28; (with_reducible refine (token_Cut.calls k2 a0 t109 _ A22.out).mono ?_); rintro e w25 ⟨v110, rfl, ho0, hb⟩; have n0_ := Aside0.mk (Kd.R_elder' (by (with_reducible repeat (first | apply Kd.R_alloc | apply Kd.R_drewN | apply Kd.R_drew)); exact HO108.out) (Kd.R_base ho0) hb); have n1_ := Aside0.mk (Kd.R_lower (Kd.R_new' ho0 (Kd.R_lt (by (with_reducible repeat (first | apply Kd.R_alloc | apply Kd.R_drewN | apply Kd.R_drew)); exact HO108.out))) (below_size (by repeat (first | (with_reducible first | exact HB.out | apply below_alloc | apply pw_below_drewN | apply below_drew1) | exact HB.out)))); have n2_ := Aside0.mk (below_step (by repeat (first | (with_reducible first | exact HB.out | apply below_alloc | apply pw_below_drewN | apply below_drew1) | exact HB.out)) hb); clear HO108; clear HB; have HO108 := n0_; have HO111 := n1_; have HB := n2_; clear n0_ n1_ n2_; (try clear hb); (try clear hb2); (try clear hk); (try clear hi); (try clear ho0); obtain ⟨Ao26, co26, eo26⟩ := Kd.R_slice HO111.out; subst eo26))
          go_ret
          exact ⟨by first | rfl | (simp [errW_none, errW_some] <;> rfl) | (simp only [← hji20]; first | rfl | (simp [errW_none, errW_some] <;> rfl)) | (simp [*, errW_none, errW_some] <;> rfl), by repeat (first | (with_reducible first | exact HB.out | apply below_alloc | apply pw_below_drewN | apply below_drew1) | exact HB.out)⟩
         ·
          rw [if_neg c21] at H
          have c21b0 : ((t106.length : Int) == (wrap64 (a2))) = false := beq_eq_false_iff_ne.mpr c21
          have c21b1 : ((t106.length : Int) != (wrap64 (a2))) = true := bne_iff_ne.mpr c21
          obtain rfl := Option.some.inj H
          go_wp2_with (first | ((with_reducible refine gate_callee (f := 28) rfl ?_); refine goesL_ (some 29) rfl rfl Try.func28 (by kernel_rfl) rfl #[.string x7_2] rfl (by (try simp only [List.map_toArray, List.map_cons, List.map_nil]); first | done | rfl | (simp only [List.length_drop, List.length_take]; rfl)) ?_; (with_reducible refine (token_Cut.calls k2 x7_2 t106 _ A17.out).mono ?_); rintro e w27 ⟨v107, rfl, ho0, hb⟩; refine ⟨_, rfl, ?_⟩; have n0_ := Aside0.mk (Kd.R_lower ho0 (below_size (by repeat (first | (with_reducible first | exact HB.out | apply below_alloc | apply pw_below_drewN | apply below_drew1) | exact HB.out)))); have n1_ := Aside0.mk (below_step (by repeat (first | (with_reducible first | exact HB.out | apply below_alloc | apply pw_below_drewN | apply below_drew1) | exact HB.out)) hb); clear HB; have HO108 := n0_; have HB := n1_; clear n0_ n1_; (try clear hb); (try clear hb2); (try clear hk); (try clear hi); (try clear ho0); obtain ⟨Ao28, co28, eo28⟩ := Kd.R_slice HO108.out; subst eo28))
          go_ret
          exact ⟨by first | rfl | (simp [errW_none, errW_some] <;> rfl) | (simp only [← hji20]; first | rfl | (simp [errW_none, errW_some] <;> rfl)) | (simp [*, errW_none, errW_some] <;> rfl), by repeat (first | (with_reducible first | exact HB.out | apply below_alloc | apply pw_below_drewN | apply below_drew1) | exact HB.out)⟩
        ·
         rw [if_neg c19] at H
         have c19b0 : decide (a1 < 48) = false := decide_eq_false c19
         clear c19
         by_cases c29 : a1 > 57
         ·
          rw [if_pos c29] at H
          have c29b0 : decide (57 < a1) = true := decide_eq_true c29
          clear c29
          by_cases c30 : a1 < 65
          ·
           rw [if_pos c30] at H
           have c30b0 : decide (a1 < 65) = true := decide_eq_true c30
           clear c30
           obtain ⟨ji31, hji31⟩ : ∃ j_ : Int, (mn (wrap64 (a2)) 1) = j_ := ⟨_, rfl⟩
           replace H : (if (t106.length : Int) = (wrap64 (a2)) then ((token_Cut.f k2 a0).bind fun t112 => (some (decide ((t112.length : Int) ≤ (a0.size : Int))))) else (some false)) = some r := by first | (rw [hji31] at H; exact H) | (simp only [hji31] at H ⊢; exact H) | exact H
           (try rw [hji31] at A17)
           have hji31_ : (if 1 < (wrap64 (a2)) then 1 else (wrap64 (a2))) = ji31 := hji31
           by_cases c32 : (t106.length : Int) = (wrap64 (a2))
           ·
            rw [if_pos c32] at H
            have c32b0 : ((t106.length : Int) == (wrap64 (a2))) = true := beq_iff_eq.mpr c32
            have c32b1 : ((t106.length : Int) != (wrap64 (a2))) = false := bne_eq_false_iff_eq.mpr c32
            clear c32
            replace H := Option.bind_eq_some_iff.mp H
            obtain ⟨t112, A330, H⟩ := H
            replace H : (some (decide ((t112.length : Int) ≤ (a0.size : Int)))) = some r := H
            have A33 := Aside0.mk A330
            clear A330
            obtain rfl := Option.some.inj H
            go_wp2_with (first | ((with_reducible refine gate_callee (f := 28) rfl ?_); refine goesL_ (some 29) rfl rfl Try.func28 (by kernel_rfl) rfl #[.string x7_2] rfl (by (try simp only [List.map_toArray, List.map_cons, List.map_nil]); first | done | rfl | (simp only [List.length_drop, List.length_take]; rfl)) ?_; (with_reducible refine (token_Cut.calls k2 x7_2 t106 _ A17.out).mono ?_); rintro e w34 ⟨v107, rfl, ho0, hb⟩; refine ⟨_, rfl, ?_⟩; have n0_ := Aside0.mk (Kd.R_lower ho0 (below_size (by repeat (first | (with_reducible first | exact HB.out | apply below_alloc | apply pw_below_drewN | apply below_drew1) | exact HB.out)))); have n1_ := Aside0.mk (below_step (by repeat (first | (with_reducible first | exact HB.out | apply below_alloc | apply pw_below_drewN | apply below_drew1) | exact HB.out)) hb); clear HB; have HO108 := n0_; have HB := n1_; clear n0_ n1_; (try clear hb); (try clear hb2); (try clear hk); (try clear hi); (try clear ho0); obtain ⟨Ao35, co35, eo35⟩ := Kd.R_slice HO108.out; subst eo35) | (go_at_call 28; (with_reducible refine (token_Cut.calls k2 a0 t112 _ A33.out).mono ?_); rintro e w36 ⟨v113, rfl, ho0, hb⟩; have n0_ := Aside0.mk (Kd.R_elder' (by (with_reducible repeat (first | apply Kd.R_alloc | apply Kd.R_drewN | apply Kd.R_drew)); exact HO108.out) (Kd.R_base ho0) hb); have n1_ := Aside0.mk (Kd.R_lower (Kd.R_new' ho0 (Kd.R_lt (by (with_reducible repeat (first | apply Kd.R_alloc | apply Kd.R_drewN | apply Kd.R_drew)); exact HO108.out))) (below_size (by repeat (first | (with_reducible first | exact HB.out | apply below_alloc | apply pw_below_drewN | apply below_drew1) | exact HB.out)))); have n2_ := Aside0.mk (below_step (by repeat (first | (with_reducible first | exact HB.out | apply below_alloc | apply pw_below_drewN | apply below_drew1) | exact HB.out)) hb); clear HO108; clear HB; have HO108 := n0_; have HO114 := n1_; have HB := n2_; clear n0_ n1_ n2_; (try clear hb); (try clear hb2); (try clear hk); (try clear hi); (try clear ho0); obtain ⟨Ao37, co37, eo37⟩ := Kd.R_slice HO114.out; subst eo37))
            go_ret
            exact ⟨by first | rfl | (simp [errW_none, errW_some] <;> rfl) | (simp only [← hji31]; first | rfl | (simp [errW_none, errW_some] <;> rfl)) | (simp [*, errW_none, errW_some] <;> rfl), by repeat (first | (with_reducible first | exact HB.out | apply below_alloc | apply pw_below_drewN | apply below_drew1) | exact HB.out)⟩
           ·
            rw [if_neg c32] at H
            have c32b0 : ((t106.length : Int) == (wrap64 (a2))) = false := beq_eq_false_iff_ne.mpr c32
            have c32b1 : ((t106.length : Int) != (wrap64 (a2))) = true := bne_iff_ne.mpr c32
            obtain rfl := Option.some.inj H
            go_wp2_with (first | ((with_reducible refine gate_callee (f := 28) rfl ?_); refine goesL_ (some 29) rfl rfl Try.func28 (by kernel_rfl) rfl #[.string x7_2] rfl (by (try simp only [List.map_toArray, List.map_cons, List.map_nil]); first | done | rfl | (simp only [List.length_drop, List.length_take]; rfl)) ?_; (with_reducible refine (token_Cut.calls k2 x7_2 t106 _ A17.out).mono ?_); rintro e w38 ⟨v107, rfl, ho0, hb⟩; refine ⟨_, rfl, ?_⟩; have n0_ := Aside0.mk (Kd.R_lower ho0 (below_size (by repeat (first | (with_reducible first | exact HB.out | apply below_alloc | apply pw_below_drewN | apply below_drew1) | exact HB.out)))); have n1_ := Aside0.mk (below_step (by repeat (first | (with_reducible first | exact HB.out | apply below_alloc | apply pw_below_drewN | apply below_drew1) | exact HB.out)) hb); clear HB; have HO108 := n0_; have HB := n1_; clear n0_ n1_; (try clear hb); (try clear hb2); (try clear hk); (try clear hi); (try clear ho0); obtain ⟨Ao39, co39, eo39⟩ := Kd.R_slice HO108.out; subst eo39))
            go_ret
            exact ⟨by first | rfl | (simp [errW_none, errW_some] <;> rfl) | (simp only [← hji31]; first | rfl | (simp [errW_none, errW_some] <;> rfl)) | (simp [*, errW_none, errW_some] <;> rfl), by repeat (first | (with_reducible first | exact HB.out | apply below_alloc | apply pw_below_drewN | apply below_drew1) | exact HB.out)⟩
          ·
           rw [if_neg c30] at H
           have c30b0 : decide (a1 < 65) = false := decide_eq_false c30
           clear c30
           by_cases c40 : a1 > 90
           ·
            rw [if_pos c40] at H
            have c40b0 : decide (90 < a1) = true := decide_eq_true c40
            clear c40
            by_cases c41 : a1 < 97
            ·
             rw [if_pos c41] at H
             have c41b0 : decide (a1 < 97) = true := decide_eq_true c41
             clear c41
             obtain ⟨ji42, hji42⟩ : ∃ j_ : Int, (mn (wrap64 (a2)) 1) = j_ := ⟨_, rfl⟩
             replace H : (if (t106.length : Int) = (wrap64 (a2)) then ((token_Cut.f k2 a0).bind fun t115 => (some (decide ((t115.length : Int) ≤ (a0.size : Int))))) else (some false)) = some r := by first | (rw [hji42] at H; exact H) | (simp only [hji42] at H ⊢; exact H) | exact H
             (try rw [hji42] at A17)
             have hji42_ : (if 1 < (wrap64 (a2)) then 1 else (wrap64 (a2))) = ji42 := hji42
             by_cases c43 : (t106.length : Int) = (wrap64 (a2))
             ·
              rw [if_pos c43] at H
              have c43b0 : ((t106.length : Int) == (wrap64 (a2))) = true := beq_iff_eq.mpr c43
              have c43b1 : ((t106.length : Int) != (wrap64 (a2))) = false := bne_eq_false_iff_eq.mpr c43
              clear c43
              replace H := Option.bind_eq_some_iff.mp H
              obtain ⟨t115, A440, H⟩ := H
              replace H : (some (decide ((t115.length : Int) ≤ (a0.size : Int)))) = some r := H
              have A44 := Aside0.mk A440
              clear A440
              obtain rfl := Option.some.inj H
              go_wp2_with (first | ((with_reducible refine gate_callee (f := 28) rfl ?_); refine goesL_ (some 29) rfl rfl Try.func28 (by kernel_rfl) rfl #[.string x7_2] rfl (by (try simp only [List.map_toArray, List.map_cons, List.map_nil]); first | done | rfl | (simp only [List.length_drop, List.length_take]; rfl)) ?_; (with_reducible refine (token_Cut.calls k2 x7_2 t106 _ A17.out).mono ?_); rintro e w45 ⟨v107, rfl, ho0, hb⟩; refine ⟨_, rfl, ?_⟩; have n0_ := Aside0.mk (Kd.R_lower ho0 (below_size (by repeat (first | (with_reducible first | exact HB.out | apply below_alloc | apply pw_below_drewN | apply below_drew1) | exact HB.out)))); have n1_ := Aside0.mk (below_step (by repeat (first | (with_reducible first | exact HB.out | apply below_alloc | apply pw_below_drewN | apply below_drew1) | exact HB.out)) hb); clear HB; have HO108 := n0_; have HB := n1_; clear n0_ n1_; (try clear hb); (try clear hb2); (try clear hk); (try clear hi); (try clear ho0); obtain ⟨Ao46, co46, eo46⟩ := Kd.R_slice HO108.out; subst eo46) | (go_at_call 28; (with_reducible refine (token_Cut.calls k2 a0 t115 _ A44.out).mono ?_); rintro e w47 ⟨v116, rfl, ho0, hb⟩; have n0_ := Aside0.mk (Kd.R_elder' (by (with_reducible repeat (first | apply Kd.R_alloc | apply Kd.R_drewN | apply Kd.R_drew)); exact HO108.out) (Kd.R_base ho0) hb); have n1_ := Aside0.mk (Kd.R_lower (Kd.R_new' ho0 (Kd.R_lt (by (with_reducible repeat (first | apply Kd.R_alloc | apply Kd.R_drewN | apply Kd.R_drew)); exact HO108.out))) (below_size (by repeat (first | (with_reducible first | exact HB.out | apply below_alloc | apply pw_below_drewN | apply below_drew1) | exact HB.out)))); have n2_ := Aside0.mk (below_step (by repeat (first | (with_reducible first | exact HB.out | apply below_alloc | apply pw_below_drewN | apply below_drew1) | exact HB.out)) hb); clear HO108; clear HB; have HO108 := n0_; have HO117 := n1_; have HB := n2_; clear n0_ n1_ n2_; (try clear hb); (try clear hb2); (try clear hk); (try clear hi); (try clear ho0); obtain ⟨Ao48, co48, eo48⟩ := Kd.R_slice HO117.out; subst eo48))
              go_ret
              exact ⟨by first | rfl | (simp [errW_none, errW_some] <;> rfl) | (simp only [← hji42]; first | rfl | (simp [errW_none, errW_some] <;> rfl)) | (simp [*, errW_none, errW_some] <;> rfl), by repeat (first | (with_reducible first | exact HB.out | apply below_alloc | apply pw_below_drewN | apply below_drew1) | exact HB.out)⟩
             ·
              rw [if_neg c43] at H
              have c43b0 : ((t106.length : Int) == (wrap64 (a2))) = false := beq_eq_false_iff_ne.mpr c43
              have c43b1 : ((t106.length : Int) != (wrap64 (a2))) = true := bne_iff_ne.mpr c43
              obtain rfl := Option.some.inj H
              go_wp2_with (first | ((with_reducible refine gate_callee (f := 28) rfl ?_); refine goesL_ (some 29) rfl rfl Try.func28 (by kernel_rfl) rfl #[.string x7_2] rfl (by (try simp only [List.map_toArray, List.map_cons, List.map_nil]); first | done | rfl | (simp only [List.length_drop, List.length_take]; rfl)) ?_; (with_reducible refine (token_Cut.calls k2 x7_2 t106 _ A17.out).mono ?_); rintro e w49 ⟨v107, rfl, ho0, hb⟩; refine ⟨_, rfl, ?_⟩; have n0_ := Aside0.mk (Kd.R_lower ho0 (below_size (by repeat (first | (with_reducible first | exact HB.out | apply below_alloc | apply pw_below_drewN | apply below_drew1) | exact HB.out)))); have n1_ := Aside0.mk (below_step (by repeat (first | (with_reducible first | exact HB.out | apply below_alloc | apply pw_below_drewN | apply below_drew1) | exact HB.out)) hb); clear HB; have HO108 := n0_; have HB := n1_; clear n0_ n1_; (try clear hb); (try clear hb2); (try clear hk); (try clear hi); (try clear ho0); obtain ⟨Ao50, co50, eo50⟩ := Kd.R_slice HO108.out; subst eo50))
              go_ret
              exact ⟨by first | rfl | (simp [errW_none, errW_some] <;> rfl) | (simp only [← hji42]; first | rfl | (simp [errW_none, errW_some] <;> rfl)) | (simp [*, errW_none, errW_some] <;> rfl), by repeat (first | (with_reducible first | exact HB.out | apply below_alloc | apply pw_below_drewN | apply below_drew1) | exact HB.out)⟩
            ·
             rw [if_neg c41] at H
             have c41b0 : decide (a1 < 97) = false := decide_eq_false c41
             clear c41
             by_cases c51 : a1 > 122
             ·
              rw [if_pos c51] at H
              have c51b0 : decide (122 < a1) = true := decide_eq_true c51
              clear c51
              by_cases c52 : a1 < 127
              ·
               rw [if_pos c52] at H
               have c52b0 : decide (a1 < 127) = true := decide_eq_true c52
               clear c52
               obtain ⟨ji53, hji53⟩ : ∃ j_ : Int, (mn (wrap64 (a2)) 1) = j_ := ⟨_, rfl⟩
               replace H : (if (t106.length : Int) = (wrap64 (a2)) then ((token_Cut.f k2 a0).bind fun t118 => (some (decide ((t118.length : Int) ≤ (a0.size : Int))))) else (some false)) = some r := by first | (rw [hji53] at H; exact H) | (simp only [hji53] at H ⊢; exact H) | exact H
               (try rw [hji53] at A17)
               have hji53_ : (if 1 < (wrap64 (a2)) then 1 else (wrap64 (a2))) = ji53 := hji53
               by_cases c54 : (t106.length : Int) = (wrap64 (a2))
               ·
                rw [if_pos c54] at H
                have c54b0 : ((t106.length : Int) == (wrap64 (a2))) = true := beq_iff_eq.mpr c54
                have c54b1 : ((t106.length : Int) != (wrap64 (a2))) = false := bne_eq_false_iff_eq.mpr c54
                clear c54
                replace H := Option.bind_eq_some_iff.mp H
                obtain ⟨t118, A550, H⟩ := H
                replace H : (some (decide ((t118.length : Int) ≤ (a0.size : Int)))) = some r := H
                have A55 := Aside0.mk A550
                clear A550
                obtain rfl := Option.some.inj H
                go_wp2_with (first | ((with_reducible refine gate_callee (f := 28) rfl ?_); refine goesL_ (some 29) rfl rfl Try.func28 (by kernel_rfl) rfl #[.string x7_2] rfl (by (try simp only [List.map_toArray, List.map_cons, List.map_nil]); first | done | rfl | (simp only [List.length_drop, List.length_take]; rfl)) ?_; (with_reducible refine (token_Cut.calls k2 x7_2 t106 _ A17.out).mono ?_); rintro e w56 ⟨v107, rfl, ho0, hb⟩; refine ⟨_, rfl, ?_⟩; have n0_ := Aside0.mk (Kd.R_lower ho0 (below_size (by repeat (first | (with_reducible first | exact HB.out | apply below_alloc | apply pw_below_drewN | apply below_drew1) | exact HB.out)))); have n1_ := Aside0.mk (below_step (by repeat (first | (with_reducible first | exact HB.out | apply below_alloc | apply pw_below_drewN | apply below_drew1) | exact HB.out)) hb); clear HB; have HO108 := n0_; have HB := n1_; clear n0_ n1_; (try clear hb); (try clear hb2); (try clear hk); (try clear hi); (try clear ho0); obtain ⟨Ao57, co57, eo57⟩ := Kd.R_slice HO108.out; subst eo57) | (go_at_call 28; (with_reducible refine (token_Cut.calls k2 a0 t118 _ A55.out).mono ?_); rintro e w58 ⟨v119, rfl, ho0, hb⟩; have n0_ := Aside0.mk (Kd.R_elder' (by (with_reducible repeat (first | apply Kd.R_alloc | apply Kd.R_drewN | apply Kd.R_drew)); exact HO108.out) (Kd.R_base ho0) hb); have n1_ := Aside0.mk (Kd.R_lower (Kd.R_new' ho0 (Kd.R_lt (by (with_reducible repeat (first | apply Kd.R_alloc | apply Kd.R_drewN | apply Kd.R_drew)); exact HO108.out))) (below_size (by repeat (first | (with_reducible first | exact HB.out | apply below_alloc | apply pw_below_drewN | apply below_drew1) | exact HB.out)))); have n2_ := Aside0.mk (below_step (by repeat (first | (with_reducible first | exact HB.out | apply below_alloc | apply pw_below_drewN | apply below_drew1) | exact HB.out)) hb); clear HO108; clear HB; have HO108 := n0_; have HO120 := n1_; have HB := n2_; clear n0_ n1_ n2_; (try clear hb); (try clear hb2); (try clear hk); (try clear hi); (try clear ho0); obtain ⟨Ao59, co59, eo59⟩ := Kd.R_slice HO120.out; subst eo59))
                go_ret
                exact ⟨by first | rfl | (simp [errW_none, errW_some] <;> rfl) | (simp only [← hji53]; first | rfl | (simp [errW_none, errW_some] <;> rfl)) | (simp [*, errW_none, errW_some] <;> rfl), by repeat (first | (with_reducible first | exact HB.out | apply below_alloc | apply pw_below_drewN | apply below_drew1) | exact HB.out)⟩
               ·
                rw [if_neg c54] at H
                have c54b0 : ((t106.length : Int) == (wrap64 (a2))) = false := beq_eq_false_iff_ne.mpr c54
                have c54b1 : ((t106.length : Int) != (wrap64 (a2))) = true := bne_iff_ne.mpr c54
                obtain rfl := Option.some.inj H
                go_wp2_with (first | ((with_reducible refine gate_callee (f := 28) rfl ?_); refine goesL_ (some 29) rfl rfl Try.func28 (by kernel_rfl) rfl #[.string x7_2] rfl (by (try simp only [List.map_toArray, List.map_cons, List.map_nil]); first | done | rfl | (simp only [List.length_drop, List.length_take]; rfl)) ?_; (with_reducible refine (token_Cut.calls k2 x7_2 t106 _ A17.out).mono ?_); rintro e w60 ⟨v107, rfl, ho0, hb⟩; refine ⟨_, rfl, ?_⟩; have n0_ := Aside0.mk (Kd.R_lower ho0 (below_size (by repeat (first | (with_reducible first | exact HB.out | apply below_alloc | apply pw_below_drewN | apply below_drew1) | exact HB.out)))); have n1_ := Aside0.mk (below_step (by repeat (first | (with_reducible first | exact HB.out | apply below_alloc | apply pw_below_drewN | apply below_drew1) | exact HB.out)) hb); clear HB; have HO108 := n0_; have HB := n1_; clear n0_ n1_; (try clear hb); (try clear hb2); (try clear hk); (try clear hi); (try clear ho0); obtain ⟨Ao61, co61, eo61⟩ := Kd.R_slice HO108.out; subst eo61))
                go_ret
                exact ⟨by first | rfl | (simp [errW_none, errW_some] <;> rfl) | (simp only [← hji53]; first | rfl | (simp [errW_none, errW_some] <;> rfl)) | (simp [*, errW_none, errW_some] <;> rfl), by repeat (first | (with_reducible first | exact HB.out | apply below_alloc | apply pw_below_drewN | apply below_drew1) | exact HB.out)⟩
              ·
               rw [if_neg c52] at H
               have c52b0 : decide (a1 < 127) = false := decide_eq_false c52
               clear c52
               by_cases c62 : a1 = 10
               ·
                exact absurd c62 (by have zc18 := of_decide_eq_true c18b0; have zc19 := of_decide_eq_false c19b0; have zc29 := of_decide_eq_true c29b0; have zc30 := of_decide_eq_false c30b0; have zc40 := of_decide_eq_true c40b0; have zc41 := of_decide_eq_false c41b0; have zc51 := of_decide_eq_true c51b0; have zc52 := of_decide_eq_false c52b0; omega)
               ·
                rw [if_neg c62] at H
                have c62b0 : (a1 == 10) = false := beq_eq_false_iff_ne.mpr c62
                have c62b1 : (a1 != 10) = true := bne_iff_ne.mpr c62
                obtain ⟨ji72, hji72⟩ : ∃ j_ : Int, (mn (wrap64 (a2)) 1) = j_ := ⟨_, rfl⟩
                replace H : (if a1 = 13 then (if (t106.length : Int) = (wrap64 (a2)) then ((token_Cut.f k2 a0).bind fun t124 => (some (decide ((t124.length : Int) ≤ (a0.size : Int))))) else (some false)) else (if (t106.length : Int) = (ji72) then ((token_Cut.f k2 a0).bind fun t127 => (some (decide ((t127.length : Int) ≤ (a0.size : Int))))) else (some false))) = some r := by first | (rw [hji72] at H; exact H) | (simp only [hji72] at H ⊢; exact H) | exact H
                (try rw [hji72] at A17)
                have hji72_ : (if 1 < (wrap64 (a2)) then 1 else (wrap64 (a2))) = ji72 := hji72
                by_cases c73 : a1 = 13
                ·
                 exact absurd c73 (by have zc18 := of_decide_eq_true c18b0; have zc19 := of_decide_eq_false c19b0; have zc29 := of_decide_eq_true c29b0; have zc30 := of_decide_eq_false c30b0; have zc40 := of_decide_eq_true c40b0; have zc41 := of_decide_eq_false c41b0; have zc51 := of_decide_eq_true c51b0; have zc52 := of_decide_eq_false c52b0; have zc62 := ne_of_beq_false c62b0; omega)
                ·
                 rw [if_neg c73] at H
                 have c73b0 : (a1 == 13) = false := beq_eq_false_iff_ne.mpr c73
                 have c73b1 : (a1 != 13) = true := bne_iff_ne.mpr c73
                 by_cases c82 : (t106.length : Int) = (ji72)
                 ·
                  rw [if_pos c82] at H
                  have c82b0 : ((t106.length : Int) == (ji72)) = true := beq_iff_eq.mpr c82
                  have c82b1 : ((t106.length : Int) != (ji72)) = false := bne_eq_false_iff_eq.mpr c82
                  clear c82
                  replace H := Option.bind_eq_some_iff.mp H
                  obtain ⟨t127, A830, H⟩ := H
                  replace H : (some (decide ((t127.length : Int) ≤ (a0.size : Int)))) = some r := H
                  have A83 := Aside0.mk A830
                  clear A830
                  obtain rfl := Option.some.inj H
                  go_wp2_with (first | ((with_reducible refine gate_callee (f := 28) rfl ?_); refine goesL_ (some 29) rfl rfl Try.func28 (by kernel_rfl) rfl #[.string x7_2] rfl (by (try simp only [List.map_toArray, List.map_cons, List.map_nil]); first | done | rfl | (simp only [List.length_drop, List.length_take]; rfl)) ?_; (with_reducible refine (token_Cut.calls k2 x7_2 t106 _ A17.out).mono ?_); rintro e w84 ⟨v107, rfl, ho0, hb⟩; refine ⟨_, rfl, ?_⟩; have n0_ := Aside0.mk (Kd.R_lower ho0 (below_size (by repeat (first | (with_reducible first | exact HB.out | apply below_alloc | apply pw_below_drewN | apply below_drew1) | exact HB.out)))); have n1_ := Aside0.mk (below_step (by repeat (first | (with_reducible first | exact HB.out | apply below_alloc | apply pw_below_drewN | apply below_drew1) | exact HB.out)) hb); clear HB; have HO108 := n0_; have HB := n1_; clear n0_ n1_; (try clear hb); (try clear hb2); (try clear hk); (try clear hi); (try clear ho0); obtain ⟨Ao85, co85, eo85⟩ := Kd.R_slice HO108.out; subst eo85) | (go_at_call 28; (with_reducible refine (token_Cut.calls k2 a0 t127 _ A83.out).mono ?_); rintro e w86 ⟨v128, rfl, ho0, hb⟩; have n0_ := Aside0.mk (Kd.R_elder' (by (with_reducible repeat (first | apply Kd.R_alloc | apply Kd.R_drewN | apply Kd.R_drew)); exact HO108.out) (Kd.R_base ho0) hb); have n1_ := Aside0.mk (Kd.R_lower (Kd.R_new' ho0 (Kd.R_lt (by (with_reducible repeat (first | apply Kd.R_alloc | apply Kd.R_drewN | apply Kd.R_drew)); exact HO108.out))) (below_size (by repeat (first | (with_reducible first | exact HB.out | apply below_alloc | apply pw_below_drewN | apply below_drew1) | exact HB.out)))); have n2_ := Aside0.mk (below_step (by repeat (first | (with_reducible first | exact HB.out | apply below_alloc | apply pw_below_drewN | apply below_drew1) | exact HB.out)) hb); clear HO108; clear HB; have HO108 := n0_; have HO129 := n1_; have HB := n2_; clear n0_ n1_ n2_; (try clear hb); (try clear hb2); (try clear hk); (try clear hi); (try clear ho0); obtain ⟨Ao87, co87, eo87⟩ := Kd.R_slice HO129.out; subst eo87))
                  go_ret
                  exact ⟨by first | rfl | (simp [errW_none, errW_some] <;> rfl) | (simp only [← hji72]; first | rfl | (simp [errW_none, errW_some] <;> rfl)) | (simp [*, errW_none, errW_some] <;> rfl), by repeat (first | (with_reducible first | exact HB.out | apply below_alloc | apply pw_below_drewN | apply below_drew1) | exact HB.out)⟩
                 ·
                  rw [if_neg c82] at H
                  have c82b0 : ((t106.length : Int) == (ji72)) = false := beq_eq_false_iff_ne.mpr c82
                  have c82b1 : ((t106.length : Int) != (ji72)) = true := bne_iff_ne.mpr c82
                  obtain rfl := Option.some.inj H
                  go_wp2_with (first | ((with_reducible refine gate_callee (f := 28) rfl ?_); refine goesL_ (some 29) rfl rfl Try.func28 (by kernel_rfl) rfl #[.string x7_2] rfl (by (try simp only [List.map_toArray, List.map_cons, List.map_nil]); first | done | rfl | (simp only [List.length_drop, List.length_take]; rfl)) ?_; (with_reducible refine (token_Cut.calls k2 x7_2 t106 _ A17.out).mono ?_); rintro e w88 ⟨v107, rfl, ho0, hb⟩; refine ⟨_, rfl, ?_⟩; have n0_ := Aside0.mk (Kd.R_lower ho0 (below_size (by repeat (first | (with_reducible first | exact HB.out | apply below_alloc | apply pw_below_drewN | apply below_drew1) | exact HB.out)))); have n1_ := Aside0.mk (below_step (by repeat (first | (with_reducible first | exact HB.out | apply below_alloc | apply pw_below_drewN | apply below_drew1) | exact HB.out)) hb); clear HB; have HO108 := n0_; have HB := n1_; clear n0_ n1_; (try clear hb); (try clear hb2); (try clear hk); (try clear hi); (try clear ho0); obtain ⟨Ao89, co89, eo89⟩ := Kd.R_slice HO108.out; subst eo89))
                  go_ret
                  exact ⟨by first | rfl | (simp [errW_none, errW_some] <;> rfl) | (simp only [← hji72]; first | rfl | (simp [errW_none, errW_some] <;> rfl)) | (simp [*, errW_none, errW_some] <;> rfl), by repeat (first | (with_reducible first | exact HB.out | apply below_alloc | apply pw_below_drewN | apply below_drew1) | exact HB.out)⟩
             ·
              rw [if_neg c51] at H
              have c51b0 : decide (122 < a1) = false := decide_eq_false c51
              clear c51
              by_cases c90 : a1 = 10
              ·
               exact absurd c90 (by have zc18 := of_decide_eq_true c18b0; have zc19 := of_decide_eq_false c19b0; have zc29 := of_decide_eq_true c29b0; have zc30 := of_decide_eq_false c30b0; have zc40 := of_decide_eq_true c40b0; have zc41 := of_decide_eq_false c41b0; have zc51 := of_decide_eq_false c51b0; omega)
              ·
               rw [if_neg c90] at H
               have c90b0 : (a1 == 10) = false := beq_eq_false_iff_ne.mpr c90
               have c90b1 : (a1 != 10) = true := bne_iff_ne.mpr c90
               obtain ⟨ji100, hji100⟩ : ∃ j_ : Int, (mn (wrap64 (a2)) 1) = j_ := ⟨_, rfl⟩
               replace H : (if a1 = 13 then (if (t106.length : Int) = (wrap64 (a2)) then ((token_Cut.f k2 a0).bind fun t133 => (some (decide ((t133.length : Int) ≤ (a0.size : Int))))) else (some false)) else (if (t106.length : Int) = (ji100) then ((token_Cut.f k2 a0).bind fun t136 => (some (decide ((t136.length : Int) ≤ (a0.size : Int))))) else (some false))) = some r := by first | (rw [hji100] at H; exact H) | (simp only [hji100] at H ⊢; exact H) | exact H
               (try rw [hji100] at A17)
               have hji100_ : (if 1 < (wrap64 (a2)) then 1 else (wrap64 (a2))) = ji100 := hji100
               by_cases c101 : a1 = 13
               ·
                exact absurd c101 (by have zc18 := of_decide_eq_true c18b0; have zc19 := of_decide_eq_false c19b0; have zc29 := of_decide_eq_true c29b0; have zc30 := of_decide_eq_false c30b0; have zc40 := of_decide_eq_true c40b0; have zc41 := of_decide_eq_false c41b0; have zc51 := of_decide_eq_false c51b0; have zc90 := ne_of_beq_false c90b0; omega)
               ·
                rw [if_neg c101] at H
                have c101b0 : (a1 == 13) = false := beq_eq_false_iff_ne.mpr c101
                have c101b1 : (a1 != 13) = true := bne_iff_ne.mpr c101
                by_cases c110 : (t106.length : Int) = (ji100)
                ·
                 rw [if_pos c110] at H
                 have c110b0 : ((t106.length : Int) == (ji100)) = true := beq_iff_eq.mpr c110
                 have c110b1 : ((t106.length : Int) != (ji100)) = false := bne_eq_false_iff_eq.mpr c110
                 clear c110
                 replace H := Option.bind_eq_some_iff.mp H
                 obtain ⟨t136, A1110, H⟩ := H
                 replace H : (some (decide ((t136.length : Int) ≤ (a0.size : Int)))) = some r := H
                 have A111 := Aside0.mk A1110
                 clear A1110
                 obtain rfl := Option.some.inj H
                 go_wp2_with (first | ((with_reducible refine gate_callee (f := 28) rfl ?_); refine goesL_ (some 29) rfl rfl Try.func28 (by kernel_rfl) rfl #[.string x7_2] rfl (by (try simp only [List.map_toArray, List.map_cons, List.map_nil]); first | done | rfl | (simp only [List.length_drop, List.length_take]; rfl)) ?_; (with_reducible refine (token_Cut.calls k2 x7_2 t106 _ A17.out).mono ?_); rintro e w112 ⟨v107, rfl, ho0, hb⟩; refine ⟨_, rfl, ?_⟩; have n0_ := Aside0.mk (Kd.R_lower ho0 (below_size (by repeat (first | (with_reducible first | exact HB.out | apply below_alloc | apply pw_below_drewN | apply below_drew1) | exact HB.out)))); have n1_ := Aside0.mk (below_step (by repeat (first | (with_reducible first | exact HB.out | apply below_alloc | apply pw_below_drewN | apply below_drew1) | exact HB.out)) hb); clear HB; have HO108 := n0_; have HB := n1_; clear n0_ n1_; (try clear hb); (try clear hb2); (try clear hk); (try clear hi); (try clear ho0); obtain ⟨Ao113, co113, eo113⟩ := Kd.R_slice HO108.out; subst eo113) | (go_at_call 28; (with_reducible refine (token_Cut.calls k2 a0 t136 _ A111.out).mono ?_); rintro e w114 ⟨v137, rfl, ho0, hb⟩; have n0_ := Aside0.mk (Kd.R_elder' (by (with_reducible repeat (first | apply Kd.R_alloc | apply Kd.R_drewN | apply Kd.R_drew)); exact HO108.out) (Kd.R_base ho0) hb); have n1_ := Aside0.mk (Kd.R_lower (Kd.R_new' ho0 (Kd.R_lt (by (with_reducible repeat (first | apply Kd.R_alloc | apply Kd.R_drewN | apply Kd.R_drew)); exact HO108.out))) (below_size (by repeat (first | (with_reducible first | exact HB.out | apply below_alloc | apply pw_below_drewN | apply below_drew1) | exact HB.out)))); have n2_ := Aside0.mk (below_step (by repeat (first | (with_reducible first | exact HB.out | apply below_alloc | apply pw_below_drewN | apply below_drew1) | exact HB.out)) hb); clear HO108; clear HB; have HO108 := n0_; have HO138 := n1_; have HB := n2_; clear n0_ n1_ n2_; (try clear hb); (try clear hb2); (try clear hk); (try clear hi); (try clear ho0); obtain ⟨Ao115, co115, eo115⟩ := Kd.R_slice HO138.out; subst eo115))
                 go_ret
                 exact ⟨by first | rfl | (simp [errW_none, errW_some] <;> rfl) | (simp only [← hji100]; first | rfl | (simp [errW_none, errW_some] <;> rfl)) | (simp [*, errW_none, errW_some] <;> rfl), by repeat (first | (with_reducible first | exact HB.out | apply below_alloc | apply pw_below_drewN | apply below_drew1) | exact HB.out)⟩
                ·
                 rw [if_neg c110] at H
                 have c110b0 : ((t106.length : Int) == (ji100)) = false := beq_eq_false_iff_ne.mpr c110
                 have c110b1 : ((t106.length : Int) != (ji100)) = true := bne_iff_ne.mpr c110
                 obtain rfl := Option.some.inj H
                 go_wp2_with (first | ((with_reducible refine gate_callee (f := 28) rfl ?_); refine goesL_ (some 29) rfl rfl Try.func28 (by kernel_rfl) rfl #[.string x7_2] rfl (by (try simp only [List.map_toArray, List.map_cons, List.map_nil]); first | done | rfl | (simp only [List.length_drop, List.length_take]; rfl)) ?_; (with_reducible refine (token_Cut.calls k2 x7_2 t106 _ A17.out).mono ?_); rintro e w116 ⟨v107, rfl, ho0, hb⟩; refine ⟨_, rfl, ?_⟩; have n0_ := Aside0.mk (Kd.R_lower ho0 (below_size (by repeat (first | (with_reducible first | exact HB.out | apply below_alloc | apply pw_below_drewN | apply below_drew1) | exact HB.out)))); have n1_ := Aside0.mk (below_step (by repeat (first | (with_reducible first | exact HB.out | apply below_alloc | apply pw_below_drewN | apply below_drew1) | exact HB.out)) hb); clear HB; have HO108 := n0_; have HB := n1_; clear n0_ n1_; (try clear hb); (try clear hb2); (try clear hk); (try clear hi); (try clear ho0); obtain ⟨Ao117, co117, eo117⟩ := Kd.R_slice HO108.out; subst eo117))
                 go_ret
                 exact ⟨by first | rfl | (simp [errW_none, errW_some] <;> rfl) | (simp only [← hji100]; first | rfl | (simp [errW_none, errW_some] <;> rfl)) | (simp [*, errW_none, errW_some] <;> rfl), by repeat (first | (with_reducible first | exact HB.out | apply below_alloc | apply pw_below_drewN | apply below_drew1) | exact HB.out)⟩
           ·
            rw [if_neg c40] at H
            have c40b0 : decide (90 < a1) = false := decide_eq_false c40
            clear c40
            by_cases c118 : a1 > 122
            ·
             exact absurd c118 (by have zc18 := of_decide_eq_true c18b0; have zc19 := of_decide_eq_false c19b0; have zc29 := of_decide_eq_true c29b0; have zc30 := of_decide_eq_false c30b0; have zc40 := of_decide_eq_false c40b0; omega)
            ·
             rw [if_neg c118] at H
             have c118b0 : decide (122 < a1) = false := decide_eq_false c118
             clear c118
             by_cases c157 : a1 = 10
             ·
              exact absurd c157 (by have zc18 := of_decide_eq_true c18b0; have zc19 := of_decide_eq_false c19b0; have zc29 := of_decide_eq_true c29b0; have zc30 := of_decide_eq_false c30b0; have zc40 := of_decide_eq_false c40b0; have zc118 := of_decide_eq_false c118b0; omega)
             ·
              rw [if_neg c157] at H
              have c157b0 : (a1 == 10) = false := beq_eq_false_iff_ne.mpr c157
              have c157b1 : (a1 != 10) = true := bne_iff_ne.mpr c157
              obtain ⟨ji167, hji167⟩ : ∃ j_ : Int, (mn (wrap64 (a2)) 1) = j_ := ⟨_, rfl⟩
              replace H : (if a1 = 13 then (if (t106.length : Int) = (wrap64 (a2)) then ((token_Cut.f k2 a0).bind fun t154 => (some (decide ((t154.length : Int) ≤ (a0.size : Int))))) else (some false)) else (if (t106.length : Int) = (ji167) then ((token_Cut.f k2 a0).bind fun t157 => (some (decide ((t157.length : Int) ≤ (a0.size : Int))))) else (some false))) = some r := by first | (rw [hji167] at H; exact H) | (simp only [hji167] at H ⊢; exact H) | exact H
              (try rw [hji167] at A17)
              have hji167_ : (if 1 < (wrap64 (a2)) then 1 else (wrap64 (a2))) = ji167 := hji167
              by_cases c168 : a1 = 13
              ·
               exact absurd c168 (by have zc18 := of_decide_eq_true c18b0; have zc19 := of_decide_eq_false c19b0; have zc29 := of_decide_eq_true c29b0; have zc30 := of_decide_eq_false c30b0; have zc40 := of_decide_eq_false c40b0; have zc118 := of_decide_eq_false c118b0; have zc157 := ne_of_beq_false c157b0; omega)
              ·
               rw [if_neg c168] at H
               have c168b0 : (a1 == 13) = false := beq_eq_false_iff_ne.mpr c168
               have c168b1 : (a1 != 13) = true := bne_iff_ne.mpr c168
               by_cases c177 : (t106.length : Int) = (ji167)
               ·
                rw [if_pos c177] at H
                have c177b0 : ((t106.length : Int) == (ji167)) = true := beq_iff_eq.mpr c177
                have c177b1 : ((t106.length : Int) != (ji167)) = false := bne_eq_false_iff_eq.mpr c177
                clear c177
                replace H := Option.bind_eq_some_iff.mp H
                obtain ⟨t157, A1780, H⟩ := H
                replace H : (some (decide ((t157.length : Int) ≤ (a0.size : Int)))) = some r := H
                have A178 := Aside0.mk A1780
                clear A1780
                obtain rfl := Option.some.inj H
                go_wp2_with (first | ((with_reducible refine gate_callee (f := 28) rfl ?_); refine goesL_ (some 29) rfl rfl Try.func28 (by kernel_rfl) rfl #[.string x7_2] rfl (by (try simp only [List.map_toArray, List.map_cons, List.map_nil]); first | done | rfl | (simp only [List.length_drop, List.length_take]; rfl)) ?_; (with_reducible refine (token_Cut.calls k2 x7_2 t106 _ A17.out).mono ?_); rintro e w179 ⟨v107, rfl, ho0, hb⟩; refine ⟨_, rfl, ?_⟩; have n0_ := Aside0.mk (Kd.R_lower ho0 (below_size (by repeat (first | (with_reducible first | exact HB.out | apply below_alloc | apply pw_below_drewN | apply below_drew1) | exact HB.out)))); have n1_ := Aside0.mk (below_step (by repeat (first | (with_reducible first | exact HB.out | apply below_alloc | apply pw_below_drewN | apply below_drew1) | exact HB.out)) hb); clear HB; have HO108 := n0_; have HB := n1_; clear n0_ n1_; (try clear hb); (try clear hb2); (try clear hk); (try clear hi); (try clear ho0); obtain ⟨Ao180, co180, eo180⟩ := Kd.R_slice HO108.out; subst eo180) | (go_at_call 28; (with_reducible refine (token_Cut.calls k2 a0 t157 _ A178.out).mono ?_); rintro e w181 ⟨v158, rfl, ho0, hb⟩; have n0_ := Aside0.mk (Kd.R_elder' (by (with_reducible repeat (first | apply Kd.R_alloc | apply Kd.R_drewN | apply Kd.R_drew)); exact HO108.out) (Kd.R_base ho0) hb); have n1_ := Aside0.mk (Kd.R_lower (Kd.R_new' ho0 (Kd.R_lt (by (with_reducible repeat (first | apply Kd.R_alloc | apply Kd.R_drewN | apply Kd.R_drew)); exact HO108.out))) (below_size (by repeat (first | (with_reducible first | exact HB.out | apply below_alloc | apply pw_below_drewN | apply below_drew1) | exact HB.out)))); have n2_ := Aside0.mk (below_step (by repeat (first | (with_reducible first | exact HB.out | apply below_alloc | apply pw_below_drewN | apply below_drew1) | exact HB.out)) hb); clear HO108; clear HB; have HO108 := n0_; have HO159 := n1_; have HB := n2_; clear n0_ n1_ n2_; (try clear hb); (try clear hb2); (try clear hk); (try clear hi); (try clear ho0); obtain ⟨Ao182, co182, eo182⟩ := Kd.R_slice HO159.out; subst eo182))
                go_ret
                exact ⟨by first | rfl | (simp [errW_none, errW_some] <;> rfl) | (simp only [← hji167]; first | rfl | (simp [errW_none, errW_some] <;> rfl)) | (simp [*, errW_none, errW_some] <;> rfl), by repeat (first | (with_reducible first | exact HB.out | apply below_alloc | apply pw_below_drewN | apply below_drew1) | exact HB.out)⟩
               ·
                rw [if_neg c177] at H
                have c177b0 : ((t106.length : Int) == (ji167)) = false := beq_eq_false_iff_ne.mpr c177
                have c177b1 : ((t106.length : Int) != (ji167)) = true := bne_iff_ne.mpr c177
                obtain rfl := Option.some.inj H
                go_wp2_with (first | ((with_reducible refine gate_callee (f := 28) rfl ?_); refine goesL_ (some 29) rfl rfl Try.func28 (by kernel_rfl) rfl #[.string x7_2] rfl (by (try simp only [List.map_toArray, List.map_cons, List.map_nil]); first | done | rfl | (simp only [List.length_drop, List.length_take]; rfl)) ?_; (with_reducible refine (token_Cut.calls k2 x7_2 t106 _ A17.out).mono ?_); rintro e w183 ⟨v107, rfl, ho0, hb⟩; refine ⟨_, rfl, ?_⟩; have n0_ := Aside0.mk (Kd.R_lower ho0 (below_size (by repeat (first | (with_reducible first | exact HB.out | apply below_alloc | apply pw_below_drewN | apply below_drew1) | exact HB.out)))); have n1_ := Aside0.mk (below_step (by repeat (first | (with_reducible first | exact HB.out | apply below_alloc | apply pw_below_drewN | apply below_drew1) | exact HB.out)) hb); clear HB; have HO108 := n0_; have HB := n1_; clear n0_ n1_; (try clear hb); (try clear hb2); (try clear hk); (try clear hi); (try clear ho0); obtain ⟨Ao184, co184, eo184⟩ := Kd.R_slice HO108.out; subst eo184))
                go_ret
                exact ⟨by first | rfl | (simp [errW_none, errW_some] <;> rfl) | (simp only [← hji167]; first | rfl | (simp [errW_none, errW_some] <;> rfl)) | (simp [*, errW_none, errW_some] <;> rfl), by repeat (first | (with_reducible first | exact HB.out | apply below_alloc | apply pw_below_drewN | apply below_drew1) | exact HB.out)⟩
         ·
          rw [if_neg c29] at H
          have c29b0 : decide (57 < a1) = false := decide_eq_false c29
          clear c29
          by_cases c185 : a1 > 90
          ·
           exact absurd c185 (by have zc18 := of_decide_eq_true c18b0; have zc19 := of_decide_eq_false c19b0; have zc29 := of_decide_eq_false c29b0; omega)
          ·
           rw [if_neg c185] at H
           have c185b0 : decide (90 < a1) = false := decide_eq_false c185
           clear c185
           by_cases c263 : a1 > 122
           ·
            exact absurd c263 (by have zc18 := of_decide_eq_true c18b0; have zc19 := of_decide_eq_false c19b0; have zc29 := of_decide_eq_false c29b0; have zc185 := of_decide_eq_false c185b0; omega)
           ·
            rw [if_neg c263] at H
            have c263b0 : decide (122 < a1) = false := decide_eq_false c263
            clear c263
            by_cases c302 : a1 = 10
            ·
             exact absurd c302 (by have zc18 := of_decide_eq_true c18b0; have zc19 := of_decide_eq_false c19b0; have zc29 := of_decide_eq_false c29b0; have zc185 := of_decide_eq_false c185b0; have zc263 := of_decide_eq_false c263b0; omega)
            ·
             rw [if_neg c302] at H
             have c302b0 : (a1 == 10) = false := beq_eq_false_iff_ne.mpr c302
             have c302b1 : (a1 != 10) = true := bne_iff_ne.mpr c302
             obtain ⟨ji312, hji312⟩ : ∃ j_ : Int, (mn (wrap64 (a2)) 1) = j_ := ⟨_, rfl⟩
             replace H : (if a1 = 13 then (if (t106.length : Int) = (wrap64 (a2)) then ((token_Cut.f k2 a0).bind fun t199 => (some (decide ((t199.length : Int) ≤ (a0.size : Int))))) else (some false)) else (if (t106.length : Int) = (ji312) then ((token_Cut.f k2 a0).bind fun t202 => (some (decide ((t202.length : Int) ≤ (a0.size : Int))))) else (some false))) = some r := by first | (rw [hji312] at H; exact H) | (simp only [hji312] at H ⊢; exact H) | exact H
             (try rw [hji312] at A17)
             have hji312_ : (if 1 < (wrap64 (a2)) then 1 else (wrap64 (a2))) = ji312 := hji312
             by_cases c313 : a1 = 13
             ·
              exact absurd c313 (by have zc18 := of_decide_eq_true c18b0; have zc19 := of_decide_eq_false c19b0; have zc29 := of_decide_eq_false c29b0; have zc185 := of_decide_eq_false c185b0; have zc263 := of_decide_eq_false c263b0; have zc302 := ne_of_beq_false c302b0; omega)
             ·
              rw [if_neg c313] at H
              have c313b0 : (a1 == 13) = false := beq_eq_false_iff_ne.mpr c313
              have c313b1 : (a1 != 13) = true := bne_iff_ne.mpr c313
              by_cases c322 : (t106.length : Int) = (ji312)
              ·
               rw [if_pos c322] at H
               have c322b0 : ((t106.length : Int) == (ji312)) = true := beq_iff_eq.mpr c322
               have c322b1 : ((t106.length : Int) != (ji312)) = false := bne_eq_false_iff_eq.mpr c322
               clear c322
               replace H := Option.bind_eq_some_iff.mp H
               obtain ⟨t202, A3230, H⟩ := H
               replace H : (some (decide ((t202.length : Int) ≤ (a0.size : Int)))) = some r := H
               have A323 := Aside0.mk A3230
               clear A3230
               obtain rfl := Option.some.inj H
               go_wp2_with (first | ((with_reducible refine gate_callee (f := 28) rfl ?_); refine goesL_ (some 29) rfl rfl Try.func28 (by kernel_rfl) rfl #[.string x7_2] rfl (by (try simp only [List.map_toArray, List.map_cons, List.map_nil]); first | done | rfl | (simp only [List.length_drop, List.length_take]; rfl)) ?_; (with_reducible refine (token_Cut.calls k2 x7_2 t106 _ A17.out).mono ?_); rintro e w324 ⟨v107, rfl, ho0, hb⟩; refine ⟨_, rfl, ?_⟩; have n0_ := Aside0.mk (Kd.R_lower ho0 (below_size (by repeat (first | (with_reducible first | exact HB.out | apply below_alloc | apply pw_below_drewN | apply below_drew1) | exact HB.out)))); have n1_ := Aside0.mk (below_step (by repeat (first | (with_reducible first | exact HB.out | apply below_alloc | apply pw_below_drewN | apply below_drew1) | exact HB.out)) hb); clear HB; have HO108 := n0_; have HB := n1_; clear n0_ n1_; (try clear hb); (try clear hb2); (try clear hk); (try clear hi); (try clear ho0); obtain ⟨Ao325, co325, eo325⟩ := Kd.R_slice HO108.out; subst eo325) | (go_at_call 28; (with_reducible refine (token_Cut.calls k2 a0 t202 _ A323.out).mono ?_); rintro e w326 ⟨v203, rfl, ho0, hb⟩; have n0_ := Aside0.mk (Kd.R_elder' (by (with_reducible repeat (first | apply Kd.R_alloc | apply Kd.R_drewN | apply Kd.R_drew)); exact HO108.out) (Kd.R_base ho0) hb); have n1_ := Aside0.mk (Kd.R_lower (Kd.R_new' ho0 (Kd.R_lt (by (with_reducible repeat (first | apply Kd.R_alloc | apply Kd.R_drewN | apply Kd.R_drew)); exact HO108.out))) (below_size (by repeat (first | (with_reducible first | exact HB.out | apply below_alloc | apply pw_below_drewN | apply below_drew1) | exact HB.out)))); have n2_ := Aside0.mk (below_step (by repeat (first | (with_reducible first | exact HB.out | apply below_alloc | apply pw_below_drewN | apply below_drew1) | exact HB.out)) hb); clear HO108; clear HB; have HO108 := n0_; have HO204 := n1_; have HB := n2_; clear n0_ n1_ n2_; (try clear hb); (try clear hb2); (try clear hk); (try clear hi); (try clear ho0); obtain ⟨Ao327, co327, eo327⟩ := Kd.R_slice HO204.out; subst eo327))
               go_ret
               exact ⟨by first | rfl | (simp [errW_none, errW_some] <;> rfl) | (simp only [← hji312]; first | rfl | (simp [errW_none, errW_some] <;> rfl)) | (simp [*, errW_none, errW_some] <;> rfl), by repeat (first | (with_reducible first | exact HB.out | apply below_alloc | apply pw_below_drewN | apply below_drew1) | exact HB.out)⟩
              ·
               rw [if_neg c322] at H
               have c322b0 : ((t106.length : Int) == (ji312)) = false := beq_eq_false_iff_ne.mpr c322
               have c322b1 : ((t106.length : Int) != (ji312)) = true := bne_iff_ne.mpr c322
               obtain rfl := Option.some.inj H
               go_wp2_with (first | ((with_reducible refine gate_callee (f := 28) rfl ?_); refine goesL_ (some 29) rfl rfl Try.func28 (by kernel_rfl) rfl #[.string x7_2] rfl (by (try simp only [List.map_toArray, List.map_cons, List.map_nil]); first | done | rfl | (simp only [List.length_drop, List.length_take]; rfl)) ?_; (with_reducible refine (token_Cut.calls k2 x7_2 t106 _ A17.out).mono ?_); rintro e w328 ⟨v107, rfl, ho0, hb⟩; refine ⟨_, rfl, ?_⟩; have n0_ := Aside0.mk (Kd.R_lower ho0 (below_size (by repeat (first | (with_reducible first | exact HB.out | apply below_alloc | apply pw_below_drewN | apply below_drew1) | exact HB.out)))); have n1_ := Aside0.mk (below_step (by repeat (first | (with_reducible first | exact HB.out | apply below_alloc | apply pw_below_drewN | apply below_drew1) | exact HB.out)) hb); clear HB; have HO108 := n0_; have HB := n1_; clear n0_ n1_; (try clear hb); (try clear hb2); (try clear hk); (try clear hi); (try clear ho0); obtain ⟨Ao329, co329, eo329⟩ := Kd.R_slice HO108.out; subst eo329))
               go_ret
               exact ⟨by first | rfl | (simp [errW_none, errW_some] <;> rfl) | (simp only [← hji312]; first | rfl | (simp [errW_none, errW_some] <;> rfl)) | (simp [*, errW_none, errW_some] <;> rfl), by repeat (first | (with_reducible first | exact HB.out | apply below_alloc | apply pw_below_drewN | apply below_drew1) | exact HB.out)⟩
       ·
        rw [if_neg c18] at H
        have c18b0 : decide (32 < a1) = false := decide_eq_false c18
        clear c18
        by_cases c330 : a1 > 57
        ·
         exact absurd c330 (by have zc18 := of_decide_eq_false c18b0; omega)
        ·
         rw [if_neg c330] at H
         have c330b0 : decide (57 < a1) = false := decide_eq_false c330
         clear c330
         by_cases c486 : a1 > 90
         ·
          exact absurd c486 (by have zc18 := of_decide_eq_false c18b0; have zc330 := of_decide_eq_false c330b0; omega)
         ·
          rw [if_neg c486] at H
          have c486b0 : decide (90 < a1) = false := decide_eq_false c486
          clear c486
          by_cases c564 : a1 > 122
          ·
           exact absurd c564 (by have zc18 := of_decide_eq_false c18b0; have zc330 := of_decide_eq_false c330b0; have zc486 := of_decide_eq_false c486b0; omega)
          ·
           rw [if_neg c564] at H
           have c564b0 : decide (122 < a1) = false := decide_eq_false c564
           clear c564
           by_cases c603 : a1 = 10
           ·
            rw [if_pos c603] at H
            have c603b0 : (a1 == 10) = true := beq_iff_eq.mpr c603
            have c603b1 : (a1 != 10) = false := bne_eq_false_iff_eq.mpr c603
            clear c603
            obtain ⟨ji604, hji604⟩ : ∃ j_ : Int, (mn (wrap64 (a2)) 1) = j_ := ⟨_, rfl⟩
            replace H : (if (t106.length : Int) = (wrap64 (a2)) then ((token_Cut.f k2 a0).bind fun t289 => (some (decide ((t289.length : Int) ≤ (a0.size : Int))))) else (some false)) = some r := by first | (rw [hji604] at H; exact H) | (simp only [hji604] at H ⊢; exact H) | exact H
            (try rw [hji604] at A17)
            have hji604_ : (if 1 < (wrap64 (a2)) then 1 else (wrap64 (a2))) = ji604 := hji604
            by_cases c605 : (t106.length : Int) = (wrap64 (a2))
            ·
             rw [if_pos c605] at H
             have c605b0 : ((t106.length : Int) == (wrap64 (a2))) = true := beq_iff_eq.mpr c605
             have c605b1 : ((t106.length : Int) != (wrap64 (a2))) = false := bne_eq_false_iff_eq.mpr c605
             clear c605
             replace H := Option.bind_eq_some_iff.mp H
             obtain ⟨t289, A6060, H⟩ := H
             replace H : (some (decide ((t289.length : Int) ≤ (a0.size : Int)))) = some r := H
             have A606 := Aside0.mk A6060
             clear A6060
             obtain rfl := Option.some.inj H
             go_wp2_with (first | ((with_reducible refine gate_callee (f := 28) rfl ?_); refine goesL_ (some 29) rfl rfl Try.func28 (by kernel_rfl) rfl #[.string x7_2] rfl (by (try simp only [List.map_toArray, List.map_cons, List.map_nil]); first | done | rfl | (simp only [List.length_drop, List.length_take]; rfl)) ?_; (with_reducible refine (token_Cut.calls k2 x7_2 t106 _ A17.out).mono ?_); rintro e w607 ⟨v107, rfl, ho0, hb⟩; refine ⟨_, rfl, ?_⟩; have n0_ := Aside0.mk (Kd.R_lower ho0 (below_size (by repeat (first | (with_reducible first | exact HB.out | apply below_alloc | apply pw_below_drewN | apply below_drew1) | exact HB.out)))); have n1_ := Aside0.mk (below_step (by repeat (first | (with_reducible first | exact HB.out | apply below_alloc | apply pw_below_drewN | apply below_drew1) | exact HB.out)) hb); clear HB; have HO108 := n0_; have HB := n1_; clear n0_ n1_; (try clear hb); (try clear hb2); (try clear hk); (try clear hi); (try clear ho0); obtain ⟨Ao608, co608, eo608⟩ := Kd.R_slice HO108.out; subst eo608) | (go_at_call 28; (with_reducible refine (token_Cut.calls k2 a0 t289 _ A606.out).mono ?_); rintro e w609 ⟨v290, rfl, ho0, hb⟩; have n0_ := Aside0.mk (Kd.R_elder' (by (with_reducible repeat (first | apply Kd.R_alloc | apply Kd.R_drewN | apply Kd.R_drew)); exact HO108.out) (Kd.R_base ho0) hb); have n1_ := Aside0.mk (Kd.R_lower (Kd.R_new' ho0 (Kd.R_lt (by (with_reducible repeat (first | apply Kd.R_alloc | apply Kd.R_drewN | apply Kd.R_drew)); exact HO108.out))) (below_size (by repeat (first | (with_reducible first | exact HB.out | apply below_alloc | apply pw_below_drewN | apply below_drew1) | exact HB.out)))); have n2_ := Aside0.mk (below_step (by repeat (first | (with_reducible first | exact HB.out | apply below_alloc | apply pw_below_drewN | apply below_drew1) | exact HB.out)) hb); clear HO108; clear HB; have HO108 := n0_; have HO291 := n1_; have HB := n2_; clear n0_ n1_ n2_; (try clear hb); (try clear hb2); (try clear hk); (try clear hi); (try clear ho0); obtain ⟨Ao610, co610, eo610⟩ := Kd.R_slice HO291.out; subst eo610))
             go_ret
             exact ⟨by first | rfl | (simp [errW_none, errW_some] <;> rfl) | (simp only [← hji604]; first | rfl | (simp [errW_none, errW_some] <;> rfl)) | (simp [*, errW_none, errW_some] <;> rfl), by repeat (first | (with_reducible first | exact HB.out | apply below_alloc | apply pw_below_drewN | apply below_drew1) | exact HB.out)⟩
            ·
             rw [if_neg c605] at H
             have c605b0 : ((t106.length : Int) == (wrap64 (a2))) = false := beq_eq_false_iff_ne.mpr c605
             have c605b1 : ((t106.length : Int) != (wrap64 (a2))) = true := bne_iff_ne.mpr c605
             obtain rfl := Option.some.inj H
             go_wp2_with (first | ((with_reducible refine gate_callee (f := 28) rfl ?_); refine goesL_ (some 29) rfl rfl Try.func28 (by kernel_rfl) rfl #[.string x7_2] rfl (by (try simp only [List.map_toArray, List.map_cons, List.map_nil]); first | done | rfl | (simp only [List.length_drop, List.length_take]; rfl)) ?_; (with_reducible refine (token_Cut.calls k2 x7_2 t106 _ A17.out).mono ?_); rintro e w611 ⟨v107, rfl, ho0, hb⟩; refine ⟨_, rfl, ?_⟩; have n0_ := Aside0.mk (Kd.R_lower ho0 (below_size (by repeat (first | (with_reducible first | exact HB.out | apply below_alloc | apply pw_below_drewN | apply below_drew1) | exact HB.out)))); have n1_ := Aside0.mk (below_step (by repeat (first | (with_reducible first | exact HB.out | apply below_alloc | apply pw_below_drewN | apply below_drew1) | exact HB.out)) hb); clear HB; have HO108 := n0_; have HB := n1_; clear n0_ n1_; (try clear hb); (try clear hb2); (try clear hk); (try clear hi); (try clear ho0); obtain ⟨Ao612, co612, eo612⟩ := Kd.R_slice HO108.out; subst eo612))
             go_ret
             exact ⟨by first | rfl | (simp [errW_none, errW_some] <;> rfl) | (simp only [← hji604]; first | rfl | (simp [errW_none, errW_some] <;> rfl)) | (simp [*, errW_none, errW_some] <;> rfl), by repeat (first | (with_reducible first | exact HB.out | apply below_alloc | apply pw_below_drewN | apply below_drew1) | exact HB.out)⟩
           ·
            rw [if_neg c603] at H
            have c603b0 : (a1 == 10) = false := beq_eq_false_iff_ne.mpr c603
            have c603b1 : (a1 != 10) = true := bne_iff_ne.mpr c603
            obtain ⟨ji613, hji613⟩ : ∃ j_ : Int, (mn (wrap64 (a2)) 1) = j_ := ⟨_, rfl⟩
            replace H : (if a1 = 13 then (if (t106.length : Int) = (wrap64 (a2)) then ((token_Cut.f k2 a0).bind fun t292 => (some (decide ((t292.length : Int) ≤ (a0.size : Int))))) else (some false)) else (if (t106.length : Int) = (ji613) then ((token_Cut.f k2 a0).bind fun t295 => (some (decide ((t295.length : Int) ≤ (a0.size : Int))))) else (some false))) = some r := by first | (rw [hji613] at H; exact H) | (simp only [hji613] at H ⊢; exact H) | exact H
            (try rw [hji613] at A17)
            have hji613_ : (if 1 < (wrap64 (a2)) then 1 else (wrap64 (a2))) = ji613 := hji613
            by_cases c614 : a1 = 13
            ·
             rw [if_pos c614] at H
             have c614b0 : (a1 == 13) = true := beq_iff_eq.mpr c614
             have c614b1 : (a1 != 13) = false := bne_eq_false_iff_eq.mpr c614
             clear c614
             by_cases c615 : (t106.length : Int) = (wrap64 (a2))
             ·
              rw [if_pos c615] at H
              have c615b0 : ((t106.length : Int) == (wrap64 (a2))) = true := beq_iff_eq.mpr c615
              have c615b1 : ((t106.length : Int) != (wrap64 (a2))) = false := bne_eq_false_iff_eq.mpr c615
              clear c615
              replace H := Option.bind_eq_some_iff.mp H
              obtain ⟨t292, A6160, H⟩ := H
              replace H : (some (decide ((t292.length : Int) ≤ (a0.size : Int)))) = some r := H
              have A616 := Aside0.mk A6160
              clear A6160
              obtain rfl := Option.some.inj H
              go_wp2_with (first | ((with_reducible refine gate_callee (f := 28) rfl ?_); refine goesL_ (some 29) rfl rfl Try.func28 (by kernel_rfl) rfl #[.string x7_2] rfl (by (try simp only [List.map_toArray, List.map_cons, List.map_nil]); first | done | rfl | (simp only [List.length_drop, List.length_take]; rfl)) ?_; (with_reducible refine (token_Cut.calls k2 x7_2 t106 _ A17.out).mono ?_); rintro e w617 ⟨v107, rfl, ho0, hb⟩; refine ⟨_, rfl, ?_⟩; have n0_ := Aside0.mk (Kd.R_lower ho0 (below_size (by repeat (first | (with_reducible first | exact HB.out | apply below_alloc | apply pw_below_drewN | apply below_drew1) | exact HB.out)))); have n1_ := Aside0.mk (below_step (by repeat (first | (with_reducible first | exact HB.out | apply below_alloc | apply pw_below_drewN | apply below_drew1) | exact HB.out)) hb); clear HB; have HO108 := n0_; have HB := n1_; clear n0_ n1_; (try clear hb); (try clear hb2); (try clear hk); (try clear hi); (try clear ho0); obtain ⟨Ao618, co618, eo618⟩ := Kd.R_slice HO108.out; subst eo618) | (go_at_call 28; (with_reducible refine (token_Cut.calls k2 a0 t292 _ A616.out).mono ?_); rintro e w619 ⟨v293, rfl, ho0, hb⟩; have n0_ := Aside0.mk (Kd.R_elder' (by (with_reducible repeat (first | apply Kd.R_alloc | apply Kd.R_drewN | apply Kd.R_drew)); exact HO108.out) (Kd.R_base ho0) hb); have n1_ := Aside0.mk (Kd.R_lower (Kd.R_new' ho0 (Kd.R_lt (by (with_reducible repeat (first | apply Kd.R_alloc | apply Kd.R_drewN | apply Kd.R_drew)); exact HO108.out))) (below_size (by repeat (first | (with_reducible first | exact HB.out | apply below_alloc | apply pw_below_drewN | apply below_drew1) | exact HB.out)))); have n2_ := Aside0.mk (below_step (by repeat (first | (with_reducible first | exact HB.out | apply below_alloc | apply pw_below_drewN | apply below_drew1) | exact HB.out)) hb); clear HO108; clear HB; have HO108 := n0_; have HO294 := n1_; have HB := n2_; clear n0_ n1_ n2_; (try clear hb); (try clear hb2); (try clear hk); (try clear hi); (try clear ho0); obtain ⟨Ao620, co620, eo620⟩ := Kd.R_slice HO294.out; subst eo620))
              go_ret
              exact ⟨by first | rfl | (simp [errW_none, errW_some] <;> rfl) | (simp only [← hji613]; first | rfl | (simp [errW_none, errW_some] <;> rfl)) | (simp [*, errW_none, errW_some] <;> rfl), by repeat (first | (with_reducible first | exact HB.out | apply below_alloc | apply pw_below_drewN | apply below_drew1) | exact HB.out)⟩
             ·
              rw [if_neg c615] at H
              have c615b0 : ((t106.length : Int) == (wrap64 (a2))) = false := beq_eq_false_iff_ne.mpr c615
              have c615b1 : ((t106.length : Int) != (wrap64 (a2))) = true := bne_iff_ne.mpr c615
              obtain rfl := Option.some.inj H
              go_wp2_with (first | ((with_reducible refine gate_callee (f := 28) rfl ?_); refine goesL_ (some 29) rfl rfl Try.func28 (by kernel_rfl) rfl #[.string x7_2] rfl (by (try simp only [List.map_toArray, List.map_cons, List.map_nil]); first | done | rfl | (simp only [List.length_drop, List.length_take]; rfl)) ?_; (with_reducible refine (token_Cut.calls k2 x7_2 t106 _ A17.out).mono ?_); rintro e w621 ⟨v107, rfl, ho0, hb⟩; refine ⟨_, rfl, ?_⟩; have n0_ := Aside0.mk (Kd.R_lower ho0 (below_size (by repeat (first | (with_reducible first | exact HB.out | apply below_alloc | apply pw_below_drewN | apply below_drew1) | exact HB.out)))); have n1_ := Aside0.mk (below_step (by repeat (first | (with_reducible first | exact HB.out | apply below_alloc | apply pw_below_drewN | apply below_drew1) | exact HB.out)) hb); clear HB; have HO108 := n0_; have HB := n1_; clear n0_ n1_; (try clear hb); (try clear hb2); (try clear hk); (try clear hi); (try clear ho0); obtain ⟨Ao622, co622, eo622⟩ := Kd.R_slice HO108.out; subst eo622))
              go_ret
              exact ⟨by first | rfl | (simp [errW_none, errW_some] <;> rfl) | (simp only [← hji613]; first | rfl | (simp [errW_none, errW_some] <;> rfl)) | (simp [*, errW_none, errW_some] <;> rfl), by repeat (first | (with_reducible first | exact HB.out | apply below_alloc | apply pw_below_drewN | apply below_drew1) | exact HB.out)⟩
            ·
             rw [if_neg c614] at H
             have c614b0 : (a1 == 13) = false := beq_eq_false_iff_ne.mpr c614
             have c614b1 : (a1 != 13) = true := bne_iff_ne.mpr c614
             by_cases c623 : (t106.length : Int) = (ji613)
             ·
              rw [if_pos c623] at H
              have c623b0 : ((t106.length : Int) == (ji613)) = true := beq_iff_eq.mpr c623
              have c623b1 : ((t106.length : Int) != (ji613)) = false := bne_eq_false_iff_eq.mpr c623
              clear c623
              replace H := Option.bind_eq_some_iff.mp H
              obtain ⟨t295, A6240, H⟩ := H
              replace H : (some (decide ((t295.length : Int) ≤ (a0.size : Int)))) = some r := H
              have A624 := Aside0.mk A6240
              clear A6240
              obtain rfl := Option.some.inj H
              go_wp2_with (first | ((with_reducible refine gate_callee (f := 28) rfl ?_); refine goesL_ (some 29) rfl rfl Try.func28 (by kernel_rfl) rfl #[.string x7_2] rfl (by (try simp only [List.map_toArray, List.map_cons, List.map_nil]); first | done | rfl | (simp only [List.length_drop, List.length_take]; rfl)) ?_; (with_reducible refine (token_Cut.calls k2 x7_2 t106 _ A17.out).mono ?_); rintro e w625 ⟨v107, rfl, ho0, hb⟩; refine ⟨_, rfl, ?_⟩; have n0_ := Aside0.mk (Kd.R_lower ho0 (below_size (by repeat (first | (with_reducible first | exact HB.out | apply below_alloc | apply pw_below_drewN | apply below_drew1) | exact HB.out)))); have n1_ := Aside0.mk (below_step (by repeat (first | (with_reducible first | exact HB.out | apply below_alloc | apply pw_below_drewN | apply below_drew1) | exact HB.out)) hb); clear HB; have HO108 := n0_; have HB := n1_; clear n0_ n1_; (try clear hb); (try clear hb2); (try clear hk); (try clear hi); (try clear ho0); obtain ⟨Ao626, co626, eo626⟩ := Kd.R_slice HO108.out; subst eo626) | (go_at_call 28; (with_reducible refine (token_Cut.calls k2 a0 t295 _ A624.out).mono ?_); rintro e w627 ⟨v296, rfl, ho0, hb⟩; have n0_ := Aside0.mk (Kd.R_elder' (by (with_reducible repeat (first | apply Kd.R_alloc | apply Kd.R_drewN | apply Kd.R_drew)); exact HO108.out) (Kd.R_base ho0) hb); have n1_ := Aside0.mk (Kd.R_lower (Kd.R_new' ho0 (Kd.R_lt (by (with_reducible repeat (first | apply Kd.R_alloc | apply Kd.R_drewN | apply Kd.R_drew)); exact HO108.out))) (below_size (by repeat (first | (with_reducible first | exact HB.out | apply below_alloc | apply pw_below_drewN | apply below_drew1) | exact HB.out)))); have n2_ := Aside0.mk (below_step (by repeat (first | (with_reducible first | exact HB.out | apply below_alloc | apply pw_below_drewN | apply below_drew1) | exact HB.out)) hb); clear HO108; clear HB; have HO108 := n0_; have HO297 := n1_; have HB := n2_; clear n0_ n1_ n2_; (try clear hb); (try clear hb2); (try clear hk); (try clear hi); (try clear ho0); obtain ⟨Ao628, co628, eo628⟩ := Kd.R_slice HO297.out; subst eo628))
              go_ret
              exact ⟨by first | rfl | (simp [errW_none, errW_some] <;> rfl) | (simp only [← hji613]; first | rfl | (simp [errW_none, errW_some] <;> rfl)) | (simp [*, errW_none, errW_some] <;> rfl), by repeat (first | (with_reducible first | exact HB.out | apply below_alloc | apply pw_below_drewN | apply below_drew1) | exact HB.out)⟩
             ·
              rw [if_neg c623] at H
              have c623b0 : ((t106.length : Int) == (ji613)) = false := beq_eq_false_iff_ne.mpr c623
              have c623b1 : ((t106.length : Int) != (ji613)) = true := bne_iff_ne.mpr c623
              obtain rfl := Option.some.inj H
              go_wp2_with (first | ((with_reducible refine gate_callee (f := 28) rfl ?_); refine goesL_ (some 29) rfl rfl Try.func28 (by kernel_rfl) rfl #[.string x7_2] rfl (by (try simp only [List.map_toArray, List.map_cons, List.map_nil]); first | done | rfl | (simp only [List.length_drop, List.length_take]; rfl)) ?_; (with_reducible refine (token_Cut.calls k2 x7_2 t106 _ A17.out).mono ?_); rintro e w629 ⟨v107, rfl, ho0, hb⟩; refine ⟨_, rfl, ?_⟩; have n0_ := Aside0.mk (Kd.R_lower ho0 (below_size (by repeat (first | (with_reducible first | exact HB.out | apply below_alloc | apply pw_below_drewN | apply below_drew1) | exact HB.out)))); have n1_ := Aside0.mk (below_step (by repeat (first | (with_reducible first | exact HB.out | apply below_alloc | apply pw_below_drewN | apply below_drew1) | exact HB.out)) hb); clear HB; have HO108 := n0_; have HB := n1_; clear n0_ n1_; (try clear hb); (try clear hb2); (try clear hk); (try clear hi); (try clear ho0); obtain ⟨Ao630, co630, eo630⟩ := Kd.R_slice HO108.out; subst eo630))
              go_ret
              exact ⟨by first | rfl | (simp [errW_none, errW_some] <;> rfl) | (simp only [← hji613]; first | rfl | (simp [errW_none, errW_some] <;> rfl)) | (simp [*, errW_none, errW_some] <;> rfl), by repeat (first | (with_reducible first | exact HB.out | apply below_alloc | apply pw_below_drewN | apply below_drew1) | exact HB.out)⟩

/-- THE ONE PURE STATEMENT of emendationlaw03_TokenCounts: yours. -/
def emendationlaw03_TokenCounts.Pure : Prop := ∀ (a0 : ByteArray) (a1 : Int) (a2 : Int), a0.size ≤ 140737488351232 → (Lit.int .u8 a1).wf = true → (Lit.int .u8 a2).wf = true → ∃ k, emendationlaw03_TokenCounts.f k a0 a1 a2 = some true
theorem emendationlaw03_TokenCounts.walk (P : emendationlaw03_TokenCounts.Pure) (a0 : ByteArray) (a1 : Int) (a2 : Int) (w : World) (w0 : a0.size ≤ 140737488351232) (w1 : (Lit.int .u8 a1).wf = true) (w2 : (Lit.int .u8 a2).wf = true) :
    Calls Try.prog 4 #[.string a0, .int .u8 a1, .int .u8 a2] w fun e w' => e = .returned (.bool true) ∧ Below w.heap.size w w' := by
  obtain ⟨k, h⟩ := P a0 a1 a2 w0 w1 w2
  refine (emendationlaw03_TokenCounts.calls k a0 a1 a2 true w h).mono ?_
  rintro e w' ⟨rfl, hd⟩
  exact ⟨rfl, hd⟩

end Go.Proofs.Ytlkgdfeeepiidaa.All
