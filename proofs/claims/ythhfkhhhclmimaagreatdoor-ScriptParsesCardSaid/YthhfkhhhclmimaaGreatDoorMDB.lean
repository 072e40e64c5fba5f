/- Layer 15: telling, catching, objects. No condition. Layer 15: storing, flows. No condition. Layer 15: moving. No condition. -/
import Derived.Test.YthhfkhhhclmimaaGreatDoorMDA
set_option linter.unusedVariables false
set_option linter.unusedSimpArgs false
set_option maxRecDepth 10000
set_option maxHeartbeats 4000000
namespace Go.Proofs.Shed
open Go Go.RowKit Go.Proofs.K
def K_telling : List UInt8 → Option Pk := kput (kput (kput (kput (kput (kput (kput (fun _ => none) [101, 109, 105, 116] (.with_ 1 342)) [99, 114] (.plain 343)) [115, 112, 97, 99, 101] (.plain 344)) [116, 121, 112, 101] (.with_ 2 345)) [46] (.with_ 1 346)) [117, 46] (.with_ 1 348)) [107, 101, 121] (.push 349)
theorem vm_telling (w : World) : Calls Tryz.prog 203 #[] w (DictPost w 7 K_telling) := by
  have hmm := @run_makeMap Tryz.prog
  have DK := Lib.hid (Dict.made w)
  go_enter Tryz.func203, Tryz.ntmps203
  go_wp2_with fail
  refine (vm_withG _ _ DK.out.size 1 342).mono ?_
  rintro e w1 ⟨v, rfl, gd, kp⟩
  replace DK := Lib.hid (DK.out.keeps kp)
  replace GD := Lib.hid gd
  clear kp gd
  go_wp2_with (first
    | (refine wpList_dict _ rfl _ _ _ (.inr rfl) _ 0 _ rfl DK.out (by decide) [101, 109, 105, 116] (by decide) v rfl rfl (.with_ 1 342) GD.out ?_; intro w2 dk; replace DK := Lib.hid dk; clear dk)
    | (refine wpList_dict _ rfl _ _ _ (.inr rfl) _ 1 _ rfl DK.out (by decide) [99, 114] (by decide) (fnV 343) rfl rfl (.plain 343) rfl ?_; intro w2 dk; replace DK := Lib.hid dk; clear dk)
    | (refine wpList_dict _ rfl _ _ _ (.inr rfl) _ 2 _ rfl DK.out (by decide) [115, 112, 97, 99, 101] (by decide) (fnV 344) rfl rfl (.plain 344) rfl ?_; intro w2 dk; replace DK := Lib.hid dk; clear dk))
  refine (vm_withG _ _ DK.out.size 2 345).mono ?_
  rintro e w1 ⟨v, rfl, gd, kp⟩
  replace DK := Lib.hid (DK.out.keeps kp)
  replace GD := Lib.hid gd
  clear kp gd
  go_wp2_with (first
    | (refine wpList_dict _ rfl _ _ _ (.inr rfl) _ 3 _ rfl DK.out (by decide) [116, 121, 112, 101] (by decide) v rfl rfl (.with_ 2 345) GD.out ?_; intro w2 dk; replace DK := Lib.hid dk; clear dk))
  refine (vm_withG _ _ DK.out.size 1 346).mono ?_
  rintro e w1 ⟨v, rfl, gd, kp⟩
  replace DK := Lib.hid (DK.out.keeps kp)
  replace GD := Lib.hid gd
  clear kp gd
  go_wp2_with (first
    | (refine wpList_dict _ rfl _ _ _ (.inr rfl) _ 4 _ rfl DK.out (by decide) [46] (by decide) v rfl rfl (.with_ 1 346) GD.out ?_; intro w2 dk; replace DK := Lib.hid dk; clear dk))
  refine (vm_withG _ _ DK.out.size 1 348).mono ?_
  rintro e w1 ⟨v, rfl, gd, kp⟩
  replace DK := Lib.hid (DK.out.keeps kp)
  replace GD := Lib.hid gd
  clear kp gd
  go_wp2_with (first
    | (refine wpList_dict _ rfl _ _ _ (.inr rfl) _ 5 _ rfl DK.out (by decide) [117, 46] (by decide) v rfl rfl (.with_ 1 348) GD.out ?_; intro w2 dk; replace DK := Lib.hid dk; clear dk))
  refine (vm_push _ _ DK.out.size 349).mono ?_
  rintro e w1 ⟨v, rfl, gd, kp⟩
  replace DK := Lib.hid (DK.out.keeps kp)
  replace GD := Lib.hid gd
  clear kp gd
  go_wp2_with (first
    | (refine wpList_dict _ rfl _ _ _ (.inr rfl) _ 6 _ rfl DK.out (by decide) [107, 101, 121] (by decide) v rfl rfl (.push 349) GD.out ?_; intro w2 dk; replace DK := Lib.hid dk; clear dk))
  go_ret
  exact ⟨_, rfl, DK.out⟩
def K_catching : List UInt8 → Option Pk := kput (kput (kput (kput (fun _ => none) [99, 97, 116, 99, 104] (.with_ 1 350)) [40, 99, 97, 117, 103, 104, 116, 41] (.plain 351)) [116, 104, 114, 111, 119] (.with_ 1 353)) [97, 98, 111, 114, 116] (.plain 354)
theorem vm_catching (w : World) : Calls Tryz.prog 204 #[] w (DictPost w 4 K_catching) := by
  have hmm := @run_makeMap Tryz.prog
  have DK := Lib.hid (Dict.made w)
  go_enter Tryz.func204, Tryz.ntmps204
  go_wp2_with fail
  refine (vm_withG _ _ DK.out.size 1 350).mono ?_
  rintro e w1 ⟨v, rfl, gd, kp⟩
  replace DK := Lib.hid (DK.out.keeps kp)
  replace GD := Lib.hid gd
  clear kp gd
  go_wp2_with (first
    | (refine wpList_dict _ rfl _ _ _ (.inr rfl) _ 0 _ rfl DK.out (by decide) [99, 97, 116, 99, 104] (by decide) v rfl rfl (.with_ 1 350) GD.out ?_; intro w2 dk; replace DK := Lib.hid dk; clear dk)
    | (refine wpList_dict _ rfl _ _ _ (.inr rfl) _ 1 _ rfl DK.out (by decide) [40, 99, 97, 117, 103, 104, 116, 41] (by decide) (fnV 351) rfl rfl (.plain 351) rfl ?_; intro w2 dk; replace DK := Lib.hid dk; clear dk))
  refine (vm_withG _ _ DK.out.size 1 353).mono ?_
  rintro e w1 ⟨v, rfl, gd, kp⟩
  replace DK := Lib.hid (DK.out.keeps kp)
  replace GD := Lib.hid gd
  clear kp gd
  go_wp2_with (first
    | (refine wpList_dict _ rfl _ _ _ (.inr rfl) _ 2 _ rfl DK.out (by decide) [116, 104, 114, 111, 119] (by decide) v rfl rfl (.with_ 1 353) GD.out ?_; intro w2 dk; replace DK := Lib.hid dk; clear dk)
    | (refine wpList_dict _ rfl _ _ _ (.inr rfl) _ 3 _ rfl DK.out (by decide) [97, 98, 111, 114, 116] (by decide) (fnV 354) rfl rfl (.plain 354) rfl ?_; intro w2 dk; replace DK := Lib.hid dk; clear dk))
  go_ret
  exact ⟨_, rfl, DK.out⟩
def K_objects : List UInt8 → Option Pk := kput (kput (kput (kput (kput (kput (kput (fun _ => none) [115, 101, 108, 102] (.push 355)) [110, 101, 119] (.with_ 1 356)) [99, 108, 97, 115, 115, 111, 102] (.with_ 1 358)) [40, 115, 101, 110, 100, 41] (.with_ 1 360)) [40, 99, 97, 108, 108, 41] (.with_ 1 362)) [40, 115, 117, 112, 101, 114, 41] (.plain 364)) [40, 101, 120, 105, 116, 109, 41] (.plain 365)
theorem vm_objects (w : World) : Calls Tryz.prog 205 #[] w (DictPost w 7 K_objects) := by
  have hmm := @run_makeMap Tryz.prog
  have DK := Lib.hid (Dict.made w)
  go_enter Tryz.func205, Tryz.ntmps205
  go_wp2_with fail
  refine (vm_push _ _ DK.out.size 355).mono ?_
  rintro e w1 ⟨v, rfl, gd, kp⟩
  replace DK := Lib.hid (DK.out.keeps kp)
  replace GD := Lib.hid gd
  clear kp gd
  go_wp2_with (first
    | (refine wpList_dict _ rfl _ _ _ (.inr rfl) _ 0 _ rfl DK.out (by decide) [115, 101, 108, 102] (by decide) v rfl rfl (.push 355) GD.out ?_; intro w2 dk; replace DK := Lib.hid dk; clear dk))
  refine (vm_withG _ _ DK.out.size 1 356).mono ?_
  rintro e w1 ⟨v, rfl, gd, kp⟩
  replace DK := Lib.hid (DK.out.keeps kp)
  replace GD := Lib.hid gd
  clear kp gd
  go_wp2_with (first
    | (refine wpList_dict _ rfl _ _ _ (.inr rfl) _ 1 _ rfl DK.out (by decide) [110, 101, 119] (by decide) v rfl rfl (.with_ 1 356) GD.out ?_; intro w2 dk; replace DK := Lib.hid dk; clear dk))
  refine (vm_withG _ _ DK.out.size 1 358).mono ?_
  rintro e w1 ⟨v, rfl, gd, kp⟩
  replace DK := Lib.hid (DK.out.keeps kp)
  replace GD := Lib.hid gd
  clear kp gd
  go_wp2_with (first
    | (refine wpList_dict _ rfl _ _ _ (.inr rfl) _ 2 _ rfl DK.out (by decide) [99, 108, 97, 115, 115, 111, 102] (by decide) v rfl rfl (.with_ 1 358) GD.out ?_; intro w2 dk; replace DK := Lib.hid dk; clear dk))
  refine (vm_withG _ _ DK.out.size 1 360).mono ?_
  rintro e w1 ⟨v, rfl, gd, kp⟩
  replace DK := Lib.hid (DK.out.keeps kp)
  replace GD := Lib.hid gd
  clear kp gd
  go_wp2_with (first
    | (refine wpList_dict _ rfl _ _ _ (.inr rfl) _ 3 _ rfl DK.out (by decide) [40, 115, 101, 110, 100, 41] (by decide) v rfl rfl (.with_ 1 360) GD.out ?_; intro w2 dk; replace DK := Lib.hid dk; clear dk))
  refine (vm_withG _ _ DK.out.size 1 362).mono ?_
  rintro e w1 ⟨v, rfl, gd, kp⟩
  replace DK := Lib.hid (DK.out.keeps kp)
  replace GD := Lib.hid gd
  clear kp gd
  go_wp2_with (first
    | (refine wpList_dict _ rfl _ _ _ (.inr rfl) _ 4 _ rfl DK.out (by decide) [40, 99, 97, 108, 108, 41] (by decide) v rfl rfl (.with_ 1 362) GD.out ?_; intro w2 dk; replace DK := Lib.hid dk; clear dk)
    | (refine wpList_dict _ rfl _ _ _ (.inr rfl) _ 5 _ rfl DK.out (by decide) [40, 115, 117, 112, 101, 114, 41] (by decide) (fnV 364) rfl rfl (.plain 364) rfl ?_; intro w2 dk; replace DK := Lib.hid dk; clear dk)
    | (refine wpList_dict _ rfl _ _ _ (.inr rfl) _ 6 _ rfl DK.out (by decide) [40, 101, 120, 105, 116, 109, 41] (by decide) (fnV 365) rfl rfl (.plain 365) rfl ?_; intro w2 dk; replace DK := Lib.hid dk; clear dk))
  go_ret
  exact ⟨_, rfl, DK.out⟩
end Go.Proofs.Shed
set_option linter.unusedVariables false
set_option linter.unusedSimpArgs false
set_option maxRecDepth 10000
set_option maxHeartbeats 4000000
namespace Go.Proofs.Shed
open Go Go.RowKit Go.Proofs.K
def K_storing : List UInt8 → Option Pk := kput (kput (kput (kput (kput (kput (kput (kput (kput (kput (kput (kput (kput (fun _ => none) [64] (.look 324)) [99, 64] (.look 325)) [33] (.with_ 2 327)) [99, 33] (.with_ 2 328)) [43, 33] (.with_ 2 330)) [104, 101, 114, 101] (.push 331)) [97, 108, 108, 111, 116] (.with_ 1 332)) [44] (.with_ 1 333)) [99, 44] (.with_ 1 334)) [97, 108, 105, 103, 110] (.plain 335)) [97, 108, 108, 111, 99, 97, 116, 101] (.with_ 1 336)) [102, 114, 101, 101] (.with_ 1 338)) [114, 101, 115, 105, 122, 101] (.with_ 2 340)
theorem vm_storing (w : World) : Calls Tryz.prog 202 #[] w (DictPost w 13 K_storing) := by
  have hmm := @run_makeMap Tryz.prog
  have DK := Lib.hid (Dict.made w)
  go_enter Tryz.func202, Tryz.ntmps202
  go_wp2_with fail
  refine (vm_look _ _ DK.out.size 324).mono ?_
  rintro e w1 ⟨v, rfl, gd, kp⟩
  replace DK := Lib.hid (DK.out.keeps kp)
  replace GD := Lib.hid gd
  clear kp gd
  go_wp2_with (first
    | (refine wpList_dict _ rfl _ _ _ (.inr rfl) _ 0 _ rfl DK.out (by decide) [64] (by decide) v rfl rfl (.look 324) GD.out ?_; intro w2 dk; replace DK := Lib.hid dk; clear dk))
  refine (vm_look _ _ DK.out.size 325).mono ?_
  rintro e w1 ⟨v, rfl, gd, kp⟩
  replace DK := Lib.hid (DK.out.keeps kp)
  replace GD := Lib.hid gd
  clear kp gd
  go_wp2_with (first
    | (refine wpList_dict _ rfl _ _ _ (.inr rfl) _ 1 _ rfl DK.out (by decide) [99, 64] (by decide) v rfl rfl (.look 325) GD.out ?_; intro w2 dk; replace DK := Lib.hid dk; clear dk))
  refine (vm_withG _ _ DK.out.size 2 327).mono ?_
  rintro e w1 ⟨v, rfl, gd, kp⟩
  replace DK := Lib.hid (DK.out.keeps kp)
  replace GD := Lib.hid gd
  clear kp gd
  go_wp2_with (first
    | (refine wpList_dict _ rfl _ _ _ (.inr rfl) _ 2 _ rfl DK.out (by decide) [33] (by decide) v rfl rfl (.with_ 2 327) GD.out ?_; intro w2 dk; replace DK := Lib.hid dk; clear dk))
  refine (vm_withG _ _ DK.out.size 2 328).mono ?_
  rintro e w1 ⟨v, rfl, gd, kp⟩
  replace DK := Lib.hid (DK.out.keeps kp)
  replace GD := Lib.hid gd
  clear kp gd
  go_wp2_with (first
    | (refine wpList_dict _ rfl _ _ _ (.inr rfl) _ 3 _ rfl DK.out (by decide) [99, 33] (by decide) v rfl rfl (.with_ 2 328) GD.out ?_; intro w2 dk; replace DK := Lib.hid dk; clear dk))
  refine (vm_withG _ _ DK.out.size 2 330).mono ?_
  rintro e w1 ⟨v, rfl, gd, kp⟩
  replace DK := Lib.hid (DK.out.keeps kp)
  replace GD := Lib.hid gd
  clear kp gd
  go_wp2_with (first
    | (refine wpList_dict _ rfl _ _ _ (.inr rfl) _ 4 _ rfl DK.out (by decide) [43, 33] (by decide) v rfl rfl (.with_ 2 330) GD.out ?_; intro w2 dk; replace DK := Lib.hid dk; clear dk))
  refine (vm_push _ _ DK.out.size 331).mono ?_
  rintro e w1 ⟨v, rfl, gd, kp⟩
  replace DK := Lib.hid (DK.out.keeps kp)
  replace GD := Lib.hid gd
  clear kp gd
  go_wp2_with (first
    | (refine wpList_dict _ rfl _ _ _ (.inr rfl) _ 5 _ rfl DK.out (by decide) [104, 101, 114, 101] (by decide) v rfl rfl (.push 331) GD.out ?_; intro w2 dk; replace DK := Lib.hid dk; clear dk))
  refine (vm_withG _ _ DK.out.size 1 332).mono ?_
  rintro e w1 ⟨v, rfl, gd, kp⟩
  replace DK := Lib.hid (DK.out.keeps kp)
  replace GD := Lib.hid gd
  clear kp gd
  go_wp2_with (first
    | (refine wpList_dict _ rfl _ _ _ (.inr rfl) _ 6 _ rfl DK.out (by decide) [97, 108, 108, 111, 116] (by decide) v rfl rfl (.with_ 1 332) GD.out ?_; intro w2 dk; replace DK := Lib.hid dk; clear dk))
  refine (vm_withG _ _ DK.out.size 1 333).mono ?_
  rintro e w1 ⟨v, rfl, gd, kp⟩
  replace DK := Lib.hid (DK.out.keeps kp)
  replace GD := Lib.hid gd
  clear kp gd
  go_wp2_with (first
    | (refine wpList_dict _ rfl _ _ _ (.inr rfl) _ 7 _ rfl DK.out (by decide) [44] (by decide) v rfl rfl (.with_ 1 333) GD.out ?_; intro w2 dk; replace DK := Lib.hid dk; clear dk))
  refine (vm_withG _ _ DK.out.size 1 334).mono ?_
  rintro e w1 ⟨v, rfl, gd, kp⟩
  replace DK := Lib.hid (DK.out.keeps kp)
  replace GD := Lib.hid gd
  clear kp gd
  go_wp2_with (first
    | (refine wpList_dict _ rfl _ _ _ (.inr rfl) _ 8 _ rfl DK.out (by decide) [99, 44] (by decide) v rfl rfl (.with_ 1 334) GD.out ?_; intro w2 dk; replace DK := Lib.hid dk; clear dk)
    | (refine wpList_dict _ rfl _ _ _ (.inr rfl) _ 9 _ rfl DK.out (by decide) [97, 108, 105, 103, 110] (by decide) (fnV 335) rfl rfl (.plain 335) rfl ?_; intro w2 dk; replace DK := Lib.hid dk; clear dk))
  refine (vm_withG _ _ DK.out.size 1 336).mono ?_
  rintro e w1 ⟨v, rfl, gd, kp⟩
  replace DK := Lib.hid (DK.out.keeps kp)
  replace GD := Lib.hid gd
  clear kp gd
  go_wp2_with (first
    | (refine wpList_dict _ rfl _ _ _ (.inr rfl) _ 10 _ rfl DK.out (by decide) [97, 108, 108, 111, 99, 97, 116, 101] (by decide) v rfl rfl (.with_ 1 336) GD.out ?_; intro w2 dk; replace DK := Lib.hid dk; clear dk))
  refine (vm_withG _ _ DK.out.size 1 338).mono ?_
  rintro e w1 ⟨v, rfl, gd, kp⟩
  replace DK := Lib.hid (DK.out.keeps kp)
  replace GD := Lib.hid gd
  clear kp gd
  go_wp2_with (first
    | (refine wpList_dict _ rfl _ _ _ (.inr rfl) _ 11 _ rfl DK.out (by decide) [102, 114, 101, 101] (by decide) v rfl rfl (.with_ 1 338) GD.out ?_; intro w2 dk; replace DK := Lib.hid dk; clear dk))
  refine (vm_withG _ _ DK.out.size 2 340).mono ?_
  rintro e w1 ⟨v, rfl, gd, kp⟩
  replace DK := Lib.hid (DK.out.keeps kp)
  replace GD := Lib.hid gd
  clear kp gd
  go_wp2_with (first
    | (refine wpList_dict _ rfl _ _ _ (.inr rfl) _ 12 _ rfl DK.out (by decide) [114, 101, 115, 105, 122, 101] (by decide) v rfl rfl (.with_ 2 340) GD.out ?_; intro w2 dk; replace DK := Lib.hid dk; clear dk))
  go_ret
  exact ⟨_, rfl, DK.out⟩
def K_flows : List UInt8 → Option Pk := kput (kput (kput (kput (kput (kput (kput (kput (kput (kput (kput (kput (fun _ => none) [101, 120, 105, 116] (.plain 295)) [108, 105, 116] (.push 297)) [98, 114, 97, 110, 99, 104] (.plain 298)) [48, 98, 114, 97, 110, 99, 104] (.with_ 1 300)) [40, 100, 111, 41] (.with_ 2 301)) [40, 108, 111, 111, 112, 41] (.plain 302)) [40, 43, 108, 111, 111, 112, 41] (.with_ 1 304)) [105] (.push 305)) [106] (.push 306)) [117, 110, 108, 111, 111, 112] (.plain 307)) [101, 120, 101, 99, 117, 116, 101] (.with_ 1 309)) [98, 121, 101] (.plain 311)
theorem vm_flows (w : World) : Calls Tryz.prog 199 #[] w (DictPost w 12 K_flows) := by
  have hmm := @run_makeMap Tryz.prog
  have DK := Lib.hid (Dict.made w)
  go_enter Tryz.func199, Tryz.ntmps199
  go_wp2_with (first
    | (refine wpList_dict _ rfl _ _ _ (.inr rfl) _ 0 _ rfl DK.out (by decide) [101, 120, 105, 116] (by decide) (fnV 295) rfl rfl (.plain 295) rfl ?_; intro w2 dk; replace DK := Lib.hid dk; clear dk))
  refine (vm_push _ _ DK.out.size 297).mono ?_
  rintro e w1 ⟨v, rfl, gd, kp⟩
  replace DK := Lib.hid (DK.out.keeps kp)
  replace GD := Lib.hid gd
  clear kp gd
  go_wp2_with (first
    | (refine wpList_dict _ rfl _ _ _ (.inr rfl) _ 1 _ rfl DK.out (by decide) [108, 105, 116] (by decide) v rfl rfl (.push 297) GD.out ?_; intro w2 dk; replace DK := Lib.hid dk; clear dk)
    | (refine wpList_dict _ rfl _ _ _ (.inr rfl) _ 2 _ rfl DK.out (by decide) [98, 114, 97, 110, 99, 104] (by decide) (fnV 298) rfl rfl (.plain 298) rfl ?_; intro w2 dk; replace DK := Lib.hid dk; clear dk))
  refine (vm_withG _ _ DK.out.size 1 300).mono ?_
  rintro e w1 ⟨v, rfl, gd, kp⟩
  replace DK := Lib.hid (DK.out.keeps kp)
  replace GD := Lib.hid gd
  clear kp gd
  go_wp2_with (first
    | (refine wpList_dict _ rfl _ _ _ (.inr rfl) _ 3 _ rfl DK.out (by decide) [48, 98, 114, 97, 110, 99, 104] (by decide) v rfl rfl (.with_ 1 300) GD.out ?_; intro w2 dk; replace DK := Lib.hid dk; clear dk))
  refine (vm_withG _ _ DK.out.size 2 301).mono ?_
  rintro e w1 ⟨v, rfl, gd, kp⟩
  replace DK := Lib.hid (DK.out.keeps kp)
  replace GD := Lib.hid gd
  clear kp gd
  go_wp2_with (first
    | (refine wpList_dict _ rfl _ _ _ (.inr rfl) _ 4 _ rfl DK.out (by decide) [40, 100, 111, 41] (by decide) v rfl rfl (.with_ 2 301) GD.out ?_; intro w2 dk; replace DK := Lib.hid dk; clear dk)
    | (refine wpList_dict _ rfl _ _ _ (.inr rfl) _ 5 _ rfl DK.out (by decide) [40, 108, 111, 111, 112, 41] (by decide) (fnV 302) rfl rfl (.plain 302) rfl ?_; intro w2 dk; replace DK := Lib.hid dk; clear dk))
  refine (vm_withG _ _ DK.out.size 1 304).mono ?_
  rintro e w1 ⟨v, rfl, gd, kp⟩
  replace DK := Lib.hid (DK.out.keeps kp)
  replace GD := Lib.hid gd
  clear kp gd
  go_wp2_with (first
    | (refine wpList_dict _ rfl _ _ _ (.inr rfl) _ 6 _ rfl DK.out (by decide) [40, 43, 108, 111, 111, 112, 41] (by decide) v rfl rfl (.with_ 1 304) GD.out ?_; intro w2 dk; replace DK := Lib.hid dk; clear dk))
  refine (vm_push _ _ DK.out.size 305).mono ?_
  rintro e w1 ⟨v, rfl, gd, kp⟩
  replace DK := Lib.hid (DK.out.keeps kp)
  replace GD := Lib.hid gd
  clear kp gd
  go_wp2_with (first
    | (refine wpList_dict _ rfl _ _ _ (.inr rfl) _ 7 _ rfl DK.out (by decide) [105] (by decide) v rfl rfl (.push 305) GD.out ?_; intro w2 dk; replace DK := Lib.hid dk; clear dk))
  refine (vm_push _ _ DK.out.size 306).mono ?_
  rintro e w1 ⟨v, rfl, gd, kp⟩
  replace DK := Lib.hid (DK.out.keeps kp)
  replace GD := Lib.hid gd
  clear kp gd
  go_wp2_with (first
    | (refine wpList_dict _ rfl _ _ _ (.inr rfl) _ 8 _ rfl DK.out (by decide) [106] (by decide) v rfl rfl (.push 306) GD.out ?_; intro w2 dk; replace DK := Lib.hid dk; clear dk)
    | (refine wpList_dict _ rfl _ _ _ (.inr rfl) _ 9 _ rfl DK.out (by decide) [117, 110, 108, 111, 111, 112] (by decide) (fnV 307) rfl rfl (.plain 307) rfl ?_; intro w2 dk; replace DK := Lib.hid dk; clear dk))
  refine (vm_withG _ _ DK.out.size 1 309).mono ?_
  rintro e w1 ⟨v, rfl, gd, kp⟩
  replace DK := Lib.hid (DK.out.keeps kp)
  replace GD := Lib.hid gd
  clear kp gd
  go_wp2_with (first
    | (refine wpList_dict _ rfl _ _ _ (.inr rfl) _ 10 _ rfl DK.out (by decide) [101, 120, 101, 99, 117, 116, 101] (by decide) v rfl rfl (.with_ 1 309) GD.out ?_; intro w2 dk; replace DK := Lib.hid dk; clear dk)
    | (refine wpList_dict _ rfl _ _ _ (.inr rfl) _ 11 _ rfl DK.out (by decide) [98, 121, 101] (by decide) (fnV 311) rfl rfl (.plain 311) rfl ?_; intro w2 dk; replace DK := Lib.hid dk; clear dk))
  go_ret
  exact ⟨_, rfl, DK.out⟩
end Go.Proofs.Shed
set_option linter.unusedVariables false
set_option linter.unusedSimpArgs false
set_option maxRecDepth 10000
set_option maxHeartbeats 4000000
namespace Go.Proofs.Shed
open Go Go.RowKit Go.Proofs.K
def K_moving : List UInt8 → Option Pk := kput (kput (kput (kput (kput (kput (kput (kput (kput (kput (kput (kput (kput (fun _ => none) [100, 117, 112] (.moves 1 [0, 0])) [100, 114, 111, 112] (.moves 1 [])) [115, 119, 97, 112] (.moves 2 [1, 0])) [111, 118, 101, 114] (.moves 2 [0, 1, 0])) [114, 111, 116] (.moves 3 [1, 2, 0])) [110, 105, 112] (.moves 2 [1])) [116, 117, 99, 107] (.moves 2 [1, 0, 1])) [63, 100, 117, 112] (.with_ 1 313)) [112, 105, 99, 107] (.with_ 1 314)) [100, 101, 112, 116, 104] (.push 315)) [62, 114] (.with_ 1 316)) [114, 62] (.push 317)) [114, 64] (.push 318)
theorem vm_moving (w : World) : Calls Tryz.prog 200 #[] w (DictPost w 13 K_moving) := by
  have hmm := @run_makeMap Tryz.prog
  have DK := Lib.hid (Dict.made w)
  go_enter Tryz.func200, Tryz.ntmps200
  go_wp2_with fail
  refine (vm_moves _ _ (DK.out.keeps (Keeps.alloc _ _ _)).size 1 _ 2 _ [0, 0] rfl (own_new _ _ _ 2 _ rfl (by first | rfl | simp) (by decide)) (fun g e => by cases e; first | exact DK.out.size | exact Nat.le_succ _)).mono ?_
  rintro e w1 ⟨v, rfl, gd, kp⟩
  replace DK := Lib.hid ((DK.out.keeps (Keeps.alloc _ _ _)).keeps kp)
  replace GD := Lib.hid gd
  clear kp gd
  go_wp2_with (first
    | (refine wpList_dict _ rfl _ _ _ (.inr rfl) _ 0 _ rfl DK.out (by decide) [100, 117, 112] (by decide) v rfl rfl (.moves 1 [0, 0]) GD.out ?_; intro w2 dk; replace DK := Lib.hid dk; clear dk))
  refine (vm_moves _ _ DK.out.size 1 none 0 0 [] rfl (Own.nil _ _ _) (fun g e => by cases e)).mono ?_
  rintro e w1 ⟨v, rfl, gd, kp⟩
  replace DK := Lib.hid (DK.out.keeps kp)
  replace GD := Lib.hid gd
  clear kp gd
  go_wp2_with (first
    | (refine wpList_dict _ rfl _ _ _ (.inr rfl) _ 1 _ rfl DK.out (by decide) [100, 114, 111, 112] (by decide) v rfl rfl (.moves 1 []) GD.out ?_; intro w2 dk; replace DK := Lib.hid dk; clear dk))
  refine (vm_moves _ _ (DK.out.keeps (Keeps.alloc _ _ _)).size 2 _ 2 _ [1, 0] rfl (own_new _ _ _ 2 _ rfl (by first | rfl | simp) (by decide)) (fun g e => by cases e; first | exact DK.out.size | exact Nat.le_succ _)).mono ?_
  rintro e w1 ⟨v, rfl, gd, kp⟩
  replace DK := Lib.hid ((DK.out.keeps (Keeps.alloc _ _ _)).keeps kp)
  replace GD := Lib.hid gd
  clear kp gd
  go_wp2_with (first
    | (refine wpList_dict _ rfl _ _ _ (.inr rfl) _ 2 _ rfl DK.out (by decide) [115, 119, 97, 112] (by decide) v rfl rfl (.moves 2 [1, 0]) GD.out ?_; intro w2 dk; replace DK := Lib.hid dk; clear dk))
  refine (vm_moves _ _ (DK.out.keeps (Keeps.alloc _ _ _)).size 2 _ 3 _ [0, 1, 0] rfl (own_new _ _ _ 3 _ rfl (by first | rfl | simp) (by decide)) (fun g e => by cases e; first | exact DK.out.size | exact Nat.le_succ _)).mono ?_
  rintro e w1 ⟨v, rfl, gd, kp⟩
  replace DK := Lib.hid ((DK.out.keeps (Keeps.alloc _ _ _)).keeps kp)
  replace GD := Lib.hid gd
  clear kp gd
  go_wp2_with (first
    | (refine wpList_dict _ rfl _ _ _ (.inr rfl) _ 3 _ rfl DK.out (by decide) [111, 118, 101, 114] (by decide) v rfl rfl (.moves 2 [0, 1, 0]) GD.out ?_; intro w2 dk; replace DK := Lib.hid dk; clear dk))
  refine (vm_moves _ _ (DK.out.keeps (Keeps.alloc _ _ _)).size 3 _ 3 _ [1, 2, 0] rfl (own_new _ _ _ 3 _ rfl (by first | rfl | simp) (by decide)) (fun g e => by cases e; first | exact DK.out.size | exact Nat.le_succ _)).mono ?_
  rintro e w1 ⟨v, rfl, gd, kp⟩
  replace DK := Lib.hid ((DK.out.keeps (Keeps.alloc _ _ _)).keeps kp)
  replace GD := Lib.hid gd
  clear kp gd
  go_wp2_with (first
    | (refine wpList_dict _ rfl _ _ _ (.inr rfl) _ 4 _ rfl DK.out (by decide) [114, 111, 116] (by decide) v rfl rfl (.moves 3 [1, 2, 0]) GD.out ?_; intro w2 dk; replace DK := Lib.hid dk; clear dk))
  refine (vm_moves _ _ (DK.out.keeps (Keeps.alloc _ _ _)).size 2 _ 1 _ [1] rfl (own_new _ _ _ 1 _ rfl (by first | rfl | simp) (by decide)) (fun g e => by cases e; first | exact DK.out.size | exact Nat.le_succ _)).mono ?_
  rintro e w1 ⟨v, rfl, gd, kp⟩
  replace DK := Lib.hid ((DK.out.keeps (Keeps.alloc _ _ _)).keeps kp)
  replace GD := Lib.hid gd
  clear kp gd
  go_wp2_with (first
    | (refine wpList_dict _ rfl _ _ _ (.inr rfl) _ 5 _ rfl DK.out (by decide) [110, 105, 112] (by decide) v rfl rfl (.moves 2 [1]) GD.out ?_; intro w2 dk; replace DK := Lib.hid dk; clear dk))
  refine (vm_moves _ _ (DK.out.keeps (Keeps.alloc _ _ _)).size 2 _ 3 _ [1, 0, 1] rfl (own_new _ _ _ 3 _ rfl (by first | rfl | simp) (by decide)) (fun g e => by cases e; first | exact DK.out.size | exact Nat.le_succ _)).mono ?_
  rintro e w1 ⟨v, rfl, gd, kp⟩
  replace DK := Lib.hid ((DK.out.keeps (Keeps.alloc _ _ _)).keeps kp)
  replace GD := Lib.hid gd
  clear kp gd
  go_wp2_with (first
    | (refine wpList_dict _ rfl _ _ _ (.inr rfl) _ 6 _ rfl DK.out (by decide) [116, 117, 99, 107] (by decide) v rfl rfl (.moves 2 [1, 0, 1]) GD.out ?_; intro w2 dk; replace DK := Lib.hid dk; clear dk))
  refine (vm_withG _ _ DK.out.size 1 313).mono ?_
  rintro e w1 ⟨v, rfl, gd, kp⟩
  replace DK := Lib.hid (DK.out.keeps kp)
  replace GD := Lib.hid gd
  clear kp gd
  go_wp2_with (first
    | (refine wpList_dict _ rfl _ _ _ (.inr rfl) _ 7 _ rfl DK.out (by decide) [63, 100, 117, 112] (by decide) v rfl rfl (.with_ 1 313) GD.out ?_; intro w2 dk; replace DK := Lib.hid dk; clear dk))
  refine (vm_withG _ _ DK.out.size 1 314).mono ?_
  rintro e w1 ⟨v, rfl, gd, kp⟩
  replace DK := Lib.hid (DK.out.keeps kp)
  replace GD := Lib.hid gd
  clear kp gd
  go_wp2_with (first
    | (refine wpList_dict _ rfl _ _ _ (.inr rfl) _ 8 _ rfl DK.out (by decide) [112, 105, 99, 107] (by decide) v rfl rfl (.with_ 1 314) GD.out ?_; intro w2 dk; replace DK := Lib.hid dk; clear dk))
  refine (vm_push _ _ DK.out.size 315).mono ?_
  rintro e w1 ⟨v, rfl, gd, kp⟩
  replace DK := Lib.hid (DK.out.keeps kp)
  replace GD := Lib.hid gd
  clear kp gd
  go_wp2_with (first
    | (refine wpList_dict _ rfl _ _ _ (.inr rfl) _ 9 _ rfl DK.out (by decide) [100, 101, 112, 116, 104] (by decide) v rfl rfl (.push 315) GD.out ?_; intro w2 dk; replace DK := Lib.hid dk; clear dk))
  refine (vm_withG _ _ DK.out.size 1 316).mono ?_
  rintro e w1 ⟨v, rfl, gd, kp⟩
  replace DK := Lib.hid (DK.out.keeps kp)
  replace GD := Lib.hid gd
  clear kp gd
  go_wp2_with (first
    | (refine wpList_dict _ rfl _ _ _ (.inr rfl) _ 10 _ rfl DK.out (by decide) [62, 114] (by decide) v rfl rfl (.with_ 1 316) GD.out ?_; intro w2 dk; replace DK := Lib.hid dk; clear dk))
  refine (vm_push _ _ DK.out.size 317).mono ?_
  rintro e w1 ⟨v, rfl, gd, kp⟩
  replace DK := Lib.hid (DK.out.keeps kp)
  replace GD := Lib.hid gd
  clear kp gd
  go_wp2_with (first
    | (refine wpList_dict _ rfl _ _ _ (.inr rfl) _ 11 _ rfl DK.out (by decide) [114, 62] (by decide) v rfl rfl (.push 317) GD.out ?_; intro w2 dk; replace DK := Lib.hid dk; clear dk))
  refine (vm_push _ _ DK.out.size 318).mono ?_
  rintro e w1 ⟨v, rfl, gd, kp⟩
  replace DK := Lib.hid (DK.out.keeps kp)
  replace GD := Lib.hid gd
  clear kp gd
  go_wp2_with (first
    | (refine wpList_dict _ rfl _ _ _ (.inr rfl) _ 12 _ rfl DK.out (by decide) [114, 64] (by decide) v rfl rfl (.push 318) GD.out ?_; intro w2 dk; replace DK := Lib.hid dk; clear dk))
  go_ret
  exact ⟨_, rfl, DK.out⟩
end Go.Proofs.Shed
