/- Part 40 of the proof: FN7B. -/
import Derived.Test.YtapedmpbgeoieaaGreatC7p39
set_option linter.unusedSimpArgs false
set_option linter.unusedVariables false
namespace Go.Am
open Go Go.Proofs
set_option maxRecDepth 100000
set_option linter.unusedVariables false
theorem l7_0 : Step7 0 1 := loop_step fun _ _ _ _ _ _ => by kernel_rfl
theorem l7_1 : Step7 1 2 := loop_step fun _ _ _ _ _ _ => by kernel_rfl
theorem l7_2 : Step7 2 3 := loop_step fun _ _ _ _ _ _ => by kernel_rfl
theorem l7_3 : Step7 3 4 := loop_step fun _ _ _ _ _ _ => by kernel_rfl
theorem l7_4 : Step7 4 5 := loop_step fun _ _ _ _ _ _ => by kernel_rfl
theorem l7_5 : Step7 5 6 := loop_step fun _ _ _ _ _ _ => by kernel_rfl
theorem l7_6 : Step7 6 7 := loop_step fun _ _ _ _ _ _ => by kernel_rfl
theorem l7_7 : Step7 7 8 := loop_step fun _ _ _ _ _ _ => by kernel_rfl
theorem l7_8 : Step7 8 9 := loop_step fun _ _ _ _ _ _ => by kernel_rfl
theorem l7_9 : Step7 9 10 := loop_step fun _ _ _ _ _ _ => by kernel_rfl
theorem l7_10 : Step7 10 11 := loop_step fun _ _ _ _ _ _ => by kernel_rfl
theorem l7_11 : Step7 11 12 := loop_step fun _ _ _ _ _ _ => by kernel_rfl
theorem l7_12 : Step7 12 13 := loop_step fun _ _ _ _ _ _ => by kernel_rfl
theorem l7_13 : Step7 13 14 := loop_step fun _ _ _ _ _ _ => by kernel_rfl
theorem l7_14 : Step7 14 15 := loop_step fun _ _ _ _ _ _ => by kernel_rfl
theorem l7_15 : Step7 15 16 := loop_step fun _ _ _ _ _ _ => by kernel_rfl
theorem l7_16 : Step7 16 17 := loop_step fun _ _ _ _ _ _ => by kernel_rfl
theorem l7_17 : Step7 17 18 := loop_step fun _ _ _ _ _ _ => by kernel_rfl
theorem l7_18 : Step7 18 19 := loop_step fun _ _ _ _ _ _ => by kernel_rfl
theorem l7_19 : Step7 19 20 := loop_step fun _ _ _ _ _ _ => by kernel_rfl
theorem l7_20 : Step7 20 21 := loop_step fun _ _ _ _ _ _ => by kernel_rfl
theorem l7_21 : Step7 21 22 := loop_step fun _ _ _ _ _ _ => by kernel_rfl
theorem l7_22 : Step7 22 23 := loop_step fun _ _ _ _ _ _ => by kernel_rfl
theorem l7_23 : Step7 23 24 := loop_step fun _ _ _ _ _ _ => by kernel_rfl
theorem l7_24 : Step7 24 25 := loop_step fun _ _ _ _ _ _ => by kernel_rfl
theorem l7_25 : Step7 25 26 := loop_step fun _ _ _ _ _ _ => by kernel_rfl
theorem l7_26 : Step7 26 27 := loop_step fun _ _ _ _ _ _ => by kernel_rfl
theorem l7_27 : Step7 27 28 := loop_step fun _ _ _ _ _ _ => by kernel_rfl
theorem l7_28 : Step7 28 29 := loop_step fun _ _ _ _ _ _ => by kernel_rfl
theorem l7_29 : Step7 29 30 := loop_step fun _ _ _ _ _ _ => by kernel_rfl
theorem l7_30 : Step7 30 31 := loop_step fun _ _ _ _ _ _ => by kernel_rfl
theorem l7_31 : Step7 31 32 := loop_step fun _ _ _ _ _ _ => by kernel_rfl
theorem l7_32 : Step7 32 33 := loop_step fun _ _ _ _ _ _ => by kernel_rfl
theorem l7_33 : Step7 33 34 := loop_step fun _ _ _ _ _ _ => by kernel_rfl
theorem l7_34 : Step7 34 35 := loop_step fun _ _ _ _ _ _ => by kernel_rfl
theorem l7_35 : Step7 35 36 := loop_step fun _ _ _ _ _ _ => by kernel_rfl
theorem l7_36 : Step7 36 37 := loop_step fun _ _ _ _ _ _ => by kernel_rfl
theorem l7_37 : Step7 37 38 := loop_step fun _ _ _ _ _ _ => by kernel_rfl
theorem l7_38 : Step7 38 39 := loop_step fun _ _ _ _ _ _ => by kernel_rfl
theorem l7_39 : Step7 39 40 := loop_step fun _ _ _ _ _ _ => by kernel_rfl
theorem l7_40 : Step7 40 41 := loop_step fun _ _ _ _ _ _ => by kernel_rfl
theorem l7_41 : Step7 41 42 := loop_step fun _ _ _ _ _ _ => by kernel_rfl
theorem l7_42 : Step7 42 43 := loop_step fun _ _ _ _ _ _ => by kernel_rfl
theorem l7_43 : Step7 43 44 := loop_step fun _ _ _ _ _ _ => by kernel_rfl
theorem l7_44 : Step7 44 45 := loop_step fun _ _ _ _ _ _ => by kernel_rfl
theorem l7_45 : Step7 45 46 := loop_step fun _ _ _ _ _ _ => by kernel_rfl
theorem l7_46 : Step7 46 47 := loop_step fun _ _ _ _ _ _ => by kernel_rfl
theorem l7_47 : Step7 47 48 := loop_step fun _ _ _ _ _ _ => by kernel_rfl
theorem l7_48 : Step7 48 49 := loop_step fun _ _ _ _ _ _ => by kernel_rfl
theorem l7_49 : Step7 49 50 := loop_step fun _ _ _ _ _ _ => by kernel_rfl
theorem l7_50 : Step7 50 51 := loop_step fun _ _ _ _ _ _ => by kernel_rfl
theorem l7_51 : Step7 51 52 := loop_step fun _ _ _ _ _ _ => by kernel_rfl
theorem l7_52 : Step7 52 53 := loop_step fun _ _ _ _ _ _ => by kernel_rfl
theorem l7_53 : Step7 53 54 := loop_step fun _ _ _ _ _ _ => by kernel_rfl
theorem l7_54 : Step7 54 55 := loop_step fun _ _ _ _ _ _ => by kernel_rfl
theorem l7_55 : Step7 55 56 := loop_step fun _ _ _ _ _ _ => by kernel_rfl
theorem l7_56 : Step7 56 57 := loop_step fun _ _ _ _ _ _ => by kernel_rfl
theorem l7_57 : Step7 57 58 := loop_step fun _ _ _ _ _ _ => by kernel_rfl
theorem l7_58 : Step7 58 59 := loop_step fun _ _ _ _ _ _ => by kernel_rfl
theorem l7_59 : Step7 59 60 := loop_step fun _ _ _ _ _ _ => by kernel_rfl
theorem l7_60 : Step7 60 61 := loop_step fun _ _ _ _ _ _ => by kernel_rfl
theorem l7_61 : Step7 61 62 := loop_step fun _ _ _ _ _ _ => by kernel_rfl
theorem l7_62 : Step7 62 63 := loop_step fun _ _ _ _ _ _ => by kernel_rfl
theorem l7_63 : Step7 63 64 := loop_step fun _ _ _ _ _ _ => by kernel_rfl
theorem l7_64 : Step7 64 65 := loop_step fun _ _ _ _ _ _ => by kernel_rfl
theorem l7_65 : Step7 65 66 := loop_step fun _ _ _ _ _ _ => by kernel_rfl
theorem l7_66 : Step7 66 67 := loop_step fun _ _ _ _ _ _ => by kernel_rfl
theorem l7_67 : Step7 67 68 := loop_step fun _ _ _ _ _ _ => by kernel_rfl
theorem l7_68 : Step7 68 69 := loop_step fun _ _ _ _ _ _ => by kernel_rfl
theorem l7_69 : Step7 69 70 := loop_step fun _ _ _ _ _ _ => by kernel_rfl
theorem l7_70 : Step7 70 71 := loop_step fun _ _ _ _ _ _ => by kernel_rfl
theorem l7_71 : Step7 71 72 := loop_step fun _ _ _ _ _ _ => by kernel_rfl
theorem l7_72 : Step7 72 73 := loop_step fun _ _ _ _ _ _ => by kernel_rfl
theorem l7_73 : Step7 73 74 := loop_step fun _ _ _ _ _ _ => by kernel_rfl
theorem l7_74 : Step7 74 75 := loop_step fun _ _ _ _ _ _ => by kernel_rfl
theorem l7_75 : Step7 75 76 := loop_step fun _ _ _ _ _ _ => by kernel_rfl
theorem l7_76 : Step7 76 77 := loop_step fun _ _ _ _ _ _ => by kernel_rfl
theorem l7_77 : Step7 77 78 := loop_step fun _ _ _ _ _ _ => by kernel_rfl
theorem l7_78 : Step7 78 79 := loop_step fun _ _ _ _ _ _ => by kernel_rfl
theorem l7_79 : Step7 79 80 := loop_step fun _ _ _ _ _ _ => by kernel_rfl
theorem l7_80 : Step7 80 81 := loop_step fun _ _ _ _ _ _ => by kernel_rfl
theorem l7_81 : Step7 81 82 := loop_step fun _ _ _ _ _ _ => by kernel_rfl
theorem l7_82 : Step7 82 83 := loop_step fun _ _ _ _ _ _ => by kernel_rfl
theorem l7_83 : Step7 83 84 := loop_step fun _ _ _ _ _ _ => by kernel_rfl
theorem l7_84 : Step7 84 85 := loop_step fun _ _ _ _ _ _ => by kernel_rfl
theorem l7_85 : Step7 85 86 := loop_step fun _ _ _ _ _ _ => by kernel_rfl
theorem l7_86 : Step7 86 87 := loop_step fun _ _ _ _ _ _ => by kernel_rfl
theorem l7_87 : Step7 87 88 := loop_step fun _ _ _ _ _ _ => by kernel_rfl
theorem l7_88 : Step7 88 89 := loop_step fun _ _ _ _ _ _ => by kernel_rfl
theorem l7_89 : Step7 89 90 := loop_step fun _ _ _ _ _ _ => by kernel_rfl

end Go.Am
