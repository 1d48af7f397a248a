/-
  Digests: the roots' fractions.
-/
import Derived.Test.YtdbngnlpafcogaaFam
import Derived.Test.YtdbngnlpafcogaaWb0a

namespace Go.Proofs.Ytdbngnlpafcogaa
open Go.RowKit Go.Mem Go.Txt

def rootsL : List Nat := [0x6a09e667f3bcc908, 0xbb67ae8584caa73b, 0x3c6ef372fe94f82b, 0xa54ff53a5f1d36f1, 0x510e527fade682d1, 0x9b05688c2b3e6c1f, 0x1f83d9abfb41bd6b, 0x5be0cd19137e2179]
theorem one_u (l : List Nat) : (uv l).toArray.all (·.oneCell') = true := by
  rw [Array.all_eq_true_iff_forall_mem]
  intro u hu
  simp only [List.mem_toArray, uv, List.mem_map] at hu
  obtain ⟨x, _, rfl⟩ := hu
  rfl
theorem r8z : (Try.prog.info? 140).map (·.zero) = some (some (.agg (uv (List.replicate 8 0)).toArray)) := by kernel_rfl
theorem r8R : RowT Try.prog 140 8 := ⟨⟨_, Try.underlying140, rfl⟩, by kernel_rfl⟩
set_option maxHeartbeats 800000 in
theorem roots_any (w : World) : Calls Try.prog 91 #[] w fun e w' => e = .returned (.agg (uv rootsL).toArray) ∧ Kept [] w w' := by
  go_enter Try.func91, Try.ntmps91
  go_wp2_with (first
    | ((with_reducible refine wpl_new (o := ⟨some 0, _, _, _, _, _⟩) rfl rfl r8z ?_); intro g0 w1 m0)
    | (with_reducible refine wpl_at 1 ?_; refine wpl_exec (v := .agg (uv rootsL).toArray) rfl (by kernel_rfl) ?_)
    | ((with_reducible refine wpl_sat (.tmp 0) (.tmp 1) ?_); (refine wpl_store_row (cs := (uv rootsL).toArray) (o := ⟨none, Op.store 140 (.tmp 0) (.tmp 1), _, _, _, _⟩) r8R rfl (.tmp 0) (.tmp 1) rfl rfl rfl m0.blk rfl rfl (one_u _) ?_); intro w2 b0 k0
       have B := Lib.hid b0
       have K := Lib.hid (m0.kept.then1 k0 m0.le)
       clear m0 b0 k0))
  exact ret_row r8R rfl rfl B.out rfl rfl ⟨rfl, K.out⟩
def cubesL : List Nat := [4794697086780616226, 8158064640168781261, 13096744586834688815, 16840607885511220156, 4131703408338449720, 6480981068601479193, 10538285296894168987, 12329834152419229976, 15566598209576043074, 1334009975649890238, 2608012711638119052, 6128411473006802146, 8268148722764581231, 9286055187155687089, 11230858885718282805, 13951009754708518548, 16472876342353939154, 17275323862435702243, 1135362057144423861, 2597628984639134821, 3308224258029322869, 5365058923640841347, 6679025012923562964, 8573033837759648693, 10970295158949994411, 12119686244451234320, 12683024718118986047, 13788192230050041572, 14330467153632333762, 15395433587784984357, 489312712824947311, 1452737877330783856, 2861767655752347644, 3322285676063803686, 5560940570517711597, 5996557281743188959, 7280758554555802590, 8532644243296465576, 9350256976987008742, 10552545826968843579, 11727347734174303076, 12113106623233404929, 14000437183269869457, 14369950271660146224, 15101387698204529176, 15463397548674623760, 17586052441742319658, 1182934255886127544, 1847814050463011016, 2177327727835720531, 2830643537854262169, 3796741975233480872, 4115178125766777443, 5681478168544905931, 6601373596472566643, 7507060721942968483, 8399075790359081724, 8693463985226723168, 9568029438360202098, 10144078919501101548, 10430055236837252648, 11840083180663258601, 13761210420658862357, 14299343276471374635, 14566680578165727644, 15097957966210449927, 16922976911328602910, 17689382322260857208, 500013540394364858, 748580250866718886, 1242879168328830382, 1977374033974150939, 2944078676154940804, 3659926193048069267, 4368137639120453308, 4836135668995329356, 5532061633213252278, 6448918945643986474, 6902733635092675308, 7801388544844847127]
theorem c80z : (Try.prog.info? 142).map (·.zero) = some (some (.agg (uv (List.replicate 80 0)).toArray)) := by kernel_rfl
theorem c80R : RowT Try.prog 142 80 := ⟨⟨_, Try.underlying142, rfl⟩, by kernel_rfl⟩
set_option maxRecDepth 100000 in
set_option maxHeartbeats 800000 in
theorem cubes_any (w : World) : Calls Try.prog 92 #[] w fun e w' => e = .returned (.agg (uv cubesL).toArray) ∧ Kept [] w w' := by
  go_enter Try.func92, Try.ntmps92
  go_wp2_with (first
    | ((with_reducible refine wpl_new (o := ⟨some 0, _, _, _, _, _⟩) rfl rfl c80z ?_); intro g0 w1 m0)
    | (with_reducible refine wpl_at 1 ?_; refine wpl_exec (v := .agg (uv cubesL).toArray) rfl (by kernel_rfl) ?_)
    | ((with_reducible refine wpl_sat (.tmp 0) (.tmp 1) ?_); (refine wpl_store_row (cs := (uv cubesL).toArray) (o := ⟨none, Op.store 142 (.tmp 0) (.tmp 1), _, _, _, _⟩) c80R rfl (.tmp 0) (.tmp 1) rfl rfl rfl m0.blk rfl rfl (one_u _) ?_); intro w2 b0 k0
       have B := Lib.hid b0
       have K := Lib.hid (m0.kept.then1 k0 m0.le)
       clear m0 b0 k0))
  exact ret_row c80R rfl rfl B.out rfl rfl ⟨rfl, K.out⟩
/-- One byte put behind. -/
theorem New.app1 {w w1 w2 w3 : World} {v v' : Value} {xs : List UInt8} {x : UInt8} (h : New w w1 v xs) (hk : Kept [] w1 w2) (ho : Ow w3 5 1 v' (xs.length + 1) (bv xs ++ bv [x])) (k3 : Kept v.ownBlock.toList w2 w3) (f3 : v'.ownBlock = v.ownBlock ∨ v'.ownBlock = some w2.heap.size) : New w w3 v' (xs ++ [x]) :=
  h.step (by rw [List.length_append]; simpa [bv] using ho) (hk.of0.trans' k3) h.old (by
    rcases f3 with e | e
    · exact .inl e
    · exact .inr ⟨_, e, Nat.le_trans h.kept.size hk.size⟩)
end Go.Proofs.Ytdbngnlpafcogaa
