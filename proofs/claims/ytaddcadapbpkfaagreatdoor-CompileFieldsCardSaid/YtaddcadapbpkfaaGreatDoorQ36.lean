/-
  The law: the forms of the calls of the table.
-/
import Derived.Test.YtaddcadapbpkfaaGreatDoorQ35
namespace Go.Proofs.YtaddcadapbpkfaaGreatDoor
open Go.RowKit Pln

def formsB (s : List UInt8) (n : Int) : ByteArray :=
  if s == [103,102] then (if n == 1 then ⟨#[70,78]⟩ else ⟨#[70,78,78,76]⟩) else
  if s == [122,101,114,111] then ⟨#[67,70,78]⟩ else
  if s == [119,104,111,108,101] then ⟨#[67,70,78]⟩ else
  if s == [114,101,112] then ⟨#[67,70,78]⟩ else
  if s == [112,97,114,105,116,121] then ⟨#[67,70,78]⟩ else
  if s == [104,97,109,109,105,110,103] then ⟨#[67,70,78]⟩ else
  if s == [115,105,109,112,108,101,120] then ⟨#[67,70,78]⟩ else
  if s == [109,97,116,114,105,120] then ⟨#[67,70,78,76]⟩ else
  if s == [99,121,99,108,105,99] then ⟨#[67,70,78,76]⟩ else
  if s == [114,109] then ⟨#[67,78,78]⟩ else
  if s == [114,101,115,105,100,117,101] then ⟨#[67,78]⟩ else
  if s == [103,111,108,97,121] then ⟨#[67,78]⟩ else
  if s == [98,99,104] then ⟨#[67,70,70,78,78,78]⟩ else
  if s == [114,115] then ⟨#[67,70,78,78]⟩ else
  if s == [103,114,115] then ⟨#[67,70,78,76,76]⟩ else
  if s == [97,108,116,101,114,110,97,110,116] then ⟨#[67,70,70,78,76,76]⟩ else
  if s == [103,111,112,112,97] then ⟨#[67,70,70,76,76]⟩ else
  if s == [100,117,97,108] then ⟨#[67,67]⟩ else
  if s == [104,117,108,108] then ⟨#[67,67]⟩ else
  if s == [101,120,116,101,110,100] then ⟨#[67,67]⟩ else
  if s == [101,120,112,117,114,103,97,116,101] then ⟨#[67,67]⟩ else
  if s == [97,117,103,109,101,110,116] then ⟨#[67,67]⟩ else
  if s == [106,111,105,110] then ⟨#[67,67,67]⟩ else
  if s == [109,101,101,116] then ⟨#[67,67,67]⟩ else
  if s == [115,117,109] then ⟨#[67,67,67]⟩ else
  if s == [112,108,111,116,107,105,110] then ⟨#[67,67,67]⟩ else
  if s == [106,117,120,116,97,112,111,115,101] then ⟨#[67,67,67]⟩ else
  if s == [112,114,111,100,117,99,116] then ⟨#[67,67,67]⟩ else
  if s == [112,117,110,99,116,117,114,101] then ⟨#[67,67,76]⟩ else
  if s == [115,104,111,114,116,101,110] then ⟨#[67,67,76]⟩ else
  if s == [115,117,98,99,111,100,101] then ⟨#[67,67,76]⟩ else
  if s == [112,101,114,109,117,116,101] then ⟨#[67,67,76]⟩ else
  if s == [115,117,98,102,105,101,108,100] then ⟨#[67,67,70]⟩ else
  if s == [116,114,97,99,101] then ⟨#[67,67,70]⟩ else
  if s == [108,105,102,116] then ⟨#[67,67,70]⟩ else
  if s == [105,110,116,101,114,108,101,97,118,101] then ⟨#[67,67,78]⟩ else
  if s == [99,111,110,99,97,116] then ⟨#[67,67,67,76]⟩ else
  if s == [120] then ⟨#[67,67,67,67]⟩ else
  ⟨#[]⟩

set_option maxHeartbeats 16000000 in
set_option maxRecDepth 100000 in
theorem forms_c (s : ByteArray) (n : Int) (w : World) : Calls Tryz.prog 33 #[.string s,.int .i64 n] w fun e w' => e = .returned (.string (formsB s.toList n)) /\ w' = w := by
  go_enter Tryz.func33,Tryz.ntmps33
  go_upto_region 2 with fail
  rcases Bool.eq_false_or_eq_true (s.toList == [103,102]) with e0 | e0
  all_goals
    have E0 := Lib.hid e0
  . rcases Bool.eq_false_or_eq_true (n == (1 : Int)) with f | f
    . go_wp2_with fail
      go_ret
      refine ⟨Eq.trans ?_ (congrArg (fun b => Ending.returned (.string b)) (show (⟨#[70,78]⟩ : ByteArray) = formsB s.toList n by simp only [formsB,E0.out,f,if_true])),rfl⟩;rfl
    . go_wp2_with fail
      go_ret
      refine ⟨Eq.trans ?_ (congrArg (fun b => Ending.returned (.string b)) (show (⟨#[70,78,78,76]⟩ : ByteArray) = formsB s.toList n by simp only [formsB,E0.out,f,Bool.false_eq_true,if_true,if_false])),rfl⟩;rfl
  go_upto_region 6 with fail
  clear e0
  rcases Bool.eq_false_or_eq_true (s.toList == [122,101,114,111]) with e1 | e1
  all_goals
    have E1 := Lib.hid e1
  . go_wp2_with fail
    go_ret
    refine ⟨Eq.trans ?_ (congrArg (fun b => Ending.returned (.string b)) (show (⟨#[67,70,78]⟩ : ByteArray) = formsB s.toList n by simp only [formsB,E0.out,E1.out,Bool.false_eq_true,if_true,if_false])),rfl⟩;rfl
  go_upto_region 7 with fail
  clear e1
  rcases Bool.eq_false_or_eq_true (s.toList == [119,104,111,108,101]) with e2 | e2
  all_goals
    have E2 := Lib.hid e2
  . go_wp2_with fail
    go_ret
    refine ⟨Eq.trans ?_ (congrArg (fun b => Ending.returned (.string b)) (show (⟨#[67,70,78]⟩ : ByteArray) = formsB s.toList n by simp only [formsB,E0.out,E1.out,E2.out,Bool.false_eq_true,if_true,if_false])),rfl⟩;rfl
  go_upto_region 8 with fail
  clear e2
  rcases Bool.eq_false_or_eq_true (s.toList == [114,101,112]) with e3 | e3
  all_goals
    have E3 := Lib.hid e3
  . go_wp2_with fail
    go_ret
    refine ⟨Eq.trans ?_ (congrArg (fun b => Ending.returned (.string b)) (show (⟨#[67,70,78]⟩ : ByteArray) = formsB s.toList n by simp only [formsB,E0.out,E1.out,E2.out,E3.out,Bool.false_eq_true,if_true,if_false])),rfl⟩;rfl
  go_upto_region 9 with fail
  clear e3
  rcases Bool.eq_false_or_eq_true (s.toList == [112,97,114,105,116,121]) with e4 | e4
  all_goals
    have E4 := Lib.hid e4
  . go_wp2_with fail
    go_ret
    refine ⟨Eq.trans ?_ (congrArg (fun b => Ending.returned (.string b)) (show (⟨#[67,70,78]⟩ : ByteArray) = formsB s.toList n by simp only [formsB,E0.out,E1.out,E2.out,E3.out,E4.out,Bool.false_eq_true,if_true,if_false])),rfl⟩;rfl
  go_upto_region 10 with fail
  clear e4
  rcases Bool.eq_false_or_eq_true (s.toList == [104,97,109,109,105,110,103]) with e5 | e5
  all_goals
    have E5 := Lib.hid e5
  . go_wp2_with fail
    go_ret
    refine ⟨Eq.trans ?_ (congrArg (fun b => Ending.returned (.string b)) (show (⟨#[67,70,78]⟩ : ByteArray) = formsB s.toList n by simp only [formsB,E0.out,E1.out,E2.out,E3.out,E4.out,E5.out,Bool.false_eq_true,if_true,if_false])),rfl⟩;rfl
  go_upto_region 11 with fail
  clear e5
  rcases Bool.eq_false_or_eq_true (s.toList == [115,105,109,112,108,101,120]) with e6 | e6
  all_goals
    have E6 := Lib.hid e6
  . go_wp2_with fail
    go_ret
    refine ⟨Eq.trans ?_ (congrArg (fun b => Ending.returned (.string b)) (show (⟨#[67,70,78]⟩ : ByteArray) = formsB s.toList n by simp only [formsB,E0.out,E1.out,E2.out,E3.out,E4.out,E5.out,E6.out,Bool.false_eq_true,if_true,if_false])),rfl⟩;rfl
  go_upto_region 13 with fail
  clear e6
  rcases Bool.eq_false_or_eq_true (s.toList == [109,97,116,114,105,120]) with e7 | e7
  all_goals
    have E7 := Lib.hid e7
  . go_wp2_with fail
    go_ret
    refine ⟨Eq.trans ?_ (congrArg (fun b => Ending.returned (.string b)) (show (⟨#[67,70,78,76]⟩ : ByteArray) = formsB s.toList n by simp only [formsB,E0.out,E1.out,E2.out,E3.out,E4.out,E5.out,E6.out,E7.out,Bool.false_eq_true,if_true,if_false])),rfl⟩;rfl
  go_upto_region 14 with fail
  clear e7
  rcases Bool.eq_false_or_eq_true (s.toList == [99,121,99,108,105,99]) with e8 | e8
  all_goals
    have E8 := Lib.hid e8
  . go_wp2_with fail
    go_ret
    refine ⟨Eq.trans ?_ (congrArg (fun b => Ending.returned (.string b)) (show (⟨#[67,70,78,76]⟩ : ByteArray) = formsB s.toList n by simp only [formsB,E0.out,E1.out,E2.out,E3.out,E4.out,E5.out,E6.out,E7.out,E8.out,Bool.false_eq_true,if_true,if_false])),rfl⟩;rfl
  go_upto_region 16 with fail
  clear e8
  rcases Bool.eq_false_or_eq_true (s.toList == [114,109]) with e9 | e9
  all_goals
    have E9 := Lib.hid e9
  . go_wp2_with fail
    go_ret
    refine ⟨Eq.trans ?_ (congrArg (fun b => Ending.returned (.string b)) (show (⟨#[67,78,78]⟩ : ByteArray) = formsB s.toList n by simp only [formsB,E0.out,E1.out,E2.out,E3.out,E4.out,E5.out,E6.out,E7.out,E8.out,E9.out,Bool.false_eq_true,if_true,if_false])),rfl⟩;rfl
  go_upto_region 18 with fail
  clear e9
  rcases Bool.eq_false_or_eq_true (s.toList == [114,101,115,105,100,117,101]) with e10 | e10
  all_goals
    have E10 := Lib.hid e10
  . go_wp2_with fail
    go_ret
    refine ⟨Eq.trans ?_ (congrArg (fun b => Ending.returned (.string b)) (show (⟨#[67,78]⟩ : ByteArray) = formsB s.toList n by simp only [formsB,E0.out,E1.out,E2.out,E3.out,E4.out,E5.out,E6.out,E7.out,E8.out,E9.out,E10.out,Bool.false_eq_true,if_true,if_false])),rfl⟩;rfl
  go_upto_region 19 with fail
  clear e10
  rcases Bool.eq_false_or_eq_true (s.toList == [103,111,108,97,121]) with e11 | e11
  all_goals
    have E11 := Lib.hid e11
  . go_wp2_with fail
    go_ret
    refine ⟨Eq.trans ?_ (congrArg (fun b => Ending.returned (.string b)) (show (⟨#[67,78]⟩ : ByteArray) = formsB s.toList n by simp only [formsB,E0.out,E1.out,E2.out,E3.out,E4.out,E5.out,E6.out,E7.out,E8.out,E9.out,E10.out,E11.out,Bool.false_eq_true,if_true,if_false])),rfl⟩;rfl
  go_upto_region 21 with fail
  clear e11
  rcases Bool.eq_false_or_eq_true (s.toList == [98,99,104]) with e12 | e12
  all_goals
    have E12 := Lib.hid e12
  . go_wp2_with fail
    go_ret
    refine ⟨Eq.trans ?_ (congrArg (fun b => Ending.returned (.string b)) (show (⟨#[67,70,70,78,78,78]⟩ : ByteArray) = formsB s.toList n by simp only [formsB,E0.out,E1.out,E2.out,E3.out,E4.out,E5.out,E6.out,E7.out,E8.out,E9.out,E10.out,E11.out,E12.out,Bool.false_eq_true,if_true,if_false])),rfl⟩;rfl
  go_upto_region 23 with fail
  clear e12
  rcases Bool.eq_false_or_eq_true (s.toList == [114,115]) with e13 | e13
  all_goals
    have E13 := Lib.hid e13
  . go_wp2_with fail
    go_ret
    refine ⟨Eq.trans ?_ (congrArg (fun b => Ending.returned (.string b)) (show (⟨#[67,70,78,78]⟩ : ByteArray) = formsB s.toList n by simp only [formsB,E0.out,E1.out,E2.out,E3.out,E4.out,E5.out,E6.out,E7.out,E8.out,E9.out,E10.out,E11.out,E12.out,E13.out,Bool.false_eq_true,if_true,if_false])),rfl⟩;rfl
  go_upto_region 25 with fail
  clear e13
  rcases Bool.eq_false_or_eq_true (s.toList == [103,114,115]) with e14 | e14
  all_goals
    have E14 := Lib.hid e14
  . go_wp2_with fail
    go_ret
    refine ⟨Eq.trans ?_ (congrArg (fun b => Ending.returned (.string b)) (show (⟨#[67,70,78,76,76]⟩ : ByteArray) = formsB s.toList n by simp only [formsB,E0.out,E1.out,E2.out,E3.out,E4.out,E5.out,E6.out,E7.out,E8.out,E9.out,E10.out,E11.out,E12.out,E13.out,E14.out,Bool.false_eq_true,if_true,if_false])),rfl⟩;rfl
  go_upto_region 27 with fail
  clear e14
  rcases Bool.eq_false_or_eq_true (s.toList == [97,108,116,101,114,110,97,110,116]) with e15 | e15
  all_goals
    have E15 := Lib.hid e15
  . go_wp2_with fail
    go_ret
    refine ⟨Eq.trans ?_ (congrArg (fun b => Ending.returned (.string b)) (show (⟨#[67,70,70,78,76,76]⟩ : ByteArray) = formsB s.toList n by simp only [formsB,E0.out,E1.out,E2.out,E3.out,E4.out,E5.out,E6.out,E7.out,E8.out,E9.out,E10.out,E11.out,E12.out,E13.out,E14.out,E15.out,Bool.false_eq_true,if_true,if_false])),rfl⟩;rfl
  go_upto_region 29 with fail
  clear e15
  rcases Bool.eq_false_or_eq_true (s.toList == [103,111,112,112,97]) with e16 | e16
  all_goals
    have E16 := Lib.hid e16
  . go_wp2_with fail
    go_ret
    refine ⟨Eq.trans ?_ (congrArg (fun b => Ending.returned (.string b)) (show (⟨#[67,70,70,76,76]⟩ : ByteArray) = formsB s.toList n by simp only [formsB,E0.out,E1.out,E2.out,E3.out,E4.out,E5.out,E6.out,E7.out,E8.out,E9.out,E10.out,E11.out,E12.out,E13.out,E14.out,E15.out,E16.out,Bool.false_eq_true,if_true,if_false])),rfl⟩;rfl
  go_upto_region 31 with fail
  clear e16
  rcases Bool.eq_false_or_eq_true (s.toList == [100,117,97,108]) with e17 | e17
  all_goals
    have E17 := Lib.hid e17
  . go_wp2_with fail
    go_ret
    refine ⟨Eq.trans ?_ (congrArg (fun b => Ending.returned (.string b)) (show (⟨#[67,67]⟩ : ByteArray) = formsB s.toList n by simp only [formsB,E0.out,E1.out,E2.out,E3.out,E4.out,E5.out,E6.out,E7.out,E8.out,E9.out,E10.out,E11.out,E12.out,E13.out,E14.out,E15.out,E16.out,E17.out,Bool.false_eq_true,if_true,if_false])),rfl⟩;rfl
  go_upto_region 32 with fail
  clear e17
  rcases Bool.eq_false_or_eq_true (s.toList == [104,117,108,108]) with e18 | e18
  all_goals
    have E18 := Lib.hid e18
  . go_wp2_with fail
    go_ret
    refine ⟨Eq.trans ?_ (congrArg (fun b => Ending.returned (.string b)) (show (⟨#[67,67]⟩ : ByteArray) = formsB s.toList n by simp only [formsB,E0.out,E1.out,E2.out,E3.out,E4.out,E5.out,E6.out,E7.out,E8.out,E9.out,E10.out,E11.out,E12.out,E13.out,E14.out,E15.out,E16.out,E17.out,E18.out,Bool.false_eq_true,if_true,if_false])),rfl⟩;rfl
  go_upto_region 33 with fail
  clear e18
  rcases Bool.eq_false_or_eq_true (s.toList == [101,120,116,101,110,100]) with e19 | e19
  all_goals
    have E19 := Lib.hid e19
  . go_wp2_with fail
    go_ret
    refine ⟨Eq.trans ?_ (congrArg (fun b => Ending.returned (.string b)) (show (⟨#[67,67]⟩ : ByteArray) = formsB s.toList n by simp only [formsB,E0.out,E1.out,E2.out,E3.out,E4.out,E5.out,E6.out,E7.out,E8.out,E9.out,E10.out,E11.out,E12.out,E13.out,E14.out,E15.out,E16.out,E17.out,E18.out,E19.out,Bool.false_eq_true,if_true,if_false])),rfl⟩;rfl
  go_upto_region 34 with fail
  clear e19
  rcases Bool.eq_false_or_eq_true (s.toList == [101,120,112,117,114,103,97,116,101]) with e20 | e20
  all_goals
    have E20 := Lib.hid e20
  . go_wp2_with fail
    go_ret
    refine ⟨Eq.trans ?_ (congrArg (fun b => Ending.returned (.string b)) (show (⟨#[67,67]⟩ : ByteArray) = formsB s.toList n by simp only [formsB,E0.out,E1.out,E2.out,E3.out,E4.out,E5.out,E6.out,E7.out,E8.out,E9.out,E10.out,E11.out,E12.out,E13.out,E14.out,E15.out,E16.out,E17.out,E18.out,E19.out,E20.out,Bool.false_eq_true,if_true,if_false])),rfl⟩;rfl
  go_upto_region 35 with fail
  clear e20
  rcases Bool.eq_false_or_eq_true (s.toList == [97,117,103,109,101,110,116]) with e21 | e21
  all_goals
    have E21 := Lib.hid e21
  . go_wp2_with fail
    go_ret
    refine ⟨Eq.trans ?_ (congrArg (fun b => Ending.returned (.string b)) (show (⟨#[67,67]⟩ : ByteArray) = formsB s.toList n by simp only [formsB,E0.out,E1.out,E2.out,E3.out,E4.out,E5.out,E6.out,E7.out,E8.out,E9.out,E10.out,E11.out,E12.out,E13.out,E14.out,E15.out,E16.out,E17.out,E18.out,E19.out,E20.out,E21.out,Bool.false_eq_true,if_true,if_false])),rfl⟩;rfl
  go_upto_region 37 with fail
  clear e21
  rcases Bool.eq_false_or_eq_true (s.toList == [106,111,105,110]) with e22 | e22
  all_goals
    have E22 := Lib.hid e22
  . go_wp2_with fail
    go_ret
    refine ⟨Eq.trans ?_ (congrArg (fun b => Ending.returned (.string b)) (show (⟨#[67,67,67]⟩ : ByteArray) = formsB s.toList n by simp only [formsB,E0.out,E1.out,E2.out,E3.out,E4.out,E5.out,E6.out,E7.out,E8.out,E9.out,E10.out,E11.out,E12.out,E13.out,E14.out,E15.out,E16.out,E17.out,E18.out,E19.out,E20.out,E21.out,E22.out,Bool.false_eq_true,if_true,if_false])),rfl⟩;rfl
  go_upto_region 38 with fail
  clear e22
  rcases Bool.eq_false_or_eq_true (s.toList == [109,101,101,116]) with e23 | e23
  all_goals
    have E23 := Lib.hid e23
  . go_wp2_with fail
    go_ret
    refine ⟨Eq.trans ?_ (congrArg (fun b => Ending.returned (.string b)) (show (⟨#[67,67,67]⟩ : ByteArray) = formsB s.toList n by simp only [formsB,E0.out,E1.out,E2.out,E3.out,E4.out,E5.out,E6.out,E7.out,E8.out,E9.out,E10.out,E11.out,E12.out,E13.out,E14.out,E15.out,E16.out,E17.out,E18.out,E19.out,E20.out,E21.out,E22.out,E23.out,Bool.false_eq_true,if_true,if_false])),rfl⟩;rfl
  go_upto_region 39 with fail
  clear e23
  rcases Bool.eq_false_or_eq_true (s.toList == [115,117,109]) with e24 | e24
  all_goals
    have E24 := Lib.hid e24
  . go_wp2_with fail
    go_ret
    refine ⟨Eq.trans ?_ (congrArg (fun b => Ending.returned (.string b)) (show (⟨#[67,67,67]⟩ : ByteArray) = formsB s.toList n by simp only [formsB,E0.out,E1.out,E2.out,E3.out,E4.out,E5.out,E6.out,E7.out,E8.out,E9.out,E10.out,E11.out,E12.out,E13.out,E14.out,E15.out,E16.out,E17.out,E18.out,E19.out,E20.out,E21.out,E22.out,E23.out,E24.out,Bool.false_eq_true,if_true,if_false])),rfl⟩;rfl
  go_upto_region 40 with fail
  clear e24
  rcases Bool.eq_false_or_eq_true (s.toList == [112,108,111,116,107,105,110]) with e25 | e25
  all_goals
    have E25 := Lib.hid e25
  . go_wp2_with fail
    go_ret
    refine ⟨Eq.trans ?_ (congrArg (fun b => Ending.returned (.string b)) (show (⟨#[67,67,67]⟩ : ByteArray) = formsB s.toList n by simp only [formsB,E0.out,E1.out,E2.out,E3.out,E4.out,E5.out,E6.out,E7.out,E8.out,E9.out,E10.out,E11.out,E12.out,E13.out,E14.out,E15.out,E16.out,E17.out,E18.out,E19.out,E20.out,E21.out,E22.out,E23.out,E24.out,E25.out,Bool.false_eq_true,if_true,if_false])),rfl⟩;rfl
  go_upto_region 41 with fail
  clear e25
  rcases Bool.eq_false_or_eq_true (s.toList == [106,117,120,116,97,112,111,115,101]) with e26 | e26
  all_goals
    have E26 := Lib.hid e26
  . go_wp2_with fail
    go_ret
    refine ⟨Eq.trans ?_ (congrArg (fun b => Ending.returned (.string b)) (show (⟨#[67,67,67]⟩ : ByteArray) = formsB s.toList n by simp only [formsB,E0.out,E1.out,E2.out,E3.out,E4.out,E5.out,E6.out,E7.out,E8.out,E9.out,E10.out,E11.out,E12.out,E13.out,E14.out,E15.out,E16.out,E17.out,E18.out,E19.out,E20.out,E21.out,E22.out,E23.out,E24.out,E25.out,E26.out,Bool.false_eq_true,if_true,if_false])),rfl⟩;rfl
  go_upto_region 42 with fail
  clear e26
  rcases Bool.eq_false_or_eq_true (s.toList == [112,114,111,100,117,99,116]) with e27 | e27
  all_goals
    have E27 := Lib.hid e27
  . go_wp2_with fail
    go_ret
    refine ⟨Eq.trans ?_ (congrArg (fun b => Ending.returned (.string b)) (show (⟨#[67,67,67]⟩ : ByteArray) = formsB s.toList n by simp only [formsB,E0.out,E1.out,E2.out,E3.out,E4.out,E5.out,E6.out,E7.out,E8.out,E9.out,E10.out,E11.out,E12.out,E13.out,E14.out,E15.out,E16.out,E17.out,E18.out,E19.out,E20.out,E21.out,E22.out,E23.out,E24.out,E25.out,E26.out,E27.out,Bool.false_eq_true,if_true,if_false])),rfl⟩;rfl
  go_upto_region 44 with fail
  clear e27
  rcases Bool.eq_false_or_eq_true (s.toList == [112,117,110,99,116,117,114,101]) with e28 | e28
  all_goals
    have E28 := Lib.hid e28
  . go_wp2_with fail
    go_ret
    refine ⟨Eq.trans ?_ (congrArg (fun b => Ending.returned (.string b)) (show (⟨#[67,67,76]⟩ : ByteArray) = formsB s.toList n by simp only [formsB,E0.out,E1.out,E2.out,E3.out,E4.out,E5.out,E6.out,E7.out,E8.out,E9.out,E10.out,E11.out,E12.out,E13.out,E14.out,E15.out,E16.out,E17.out,E18.out,E19.out,E20.out,E21.out,E22.out,E23.out,E24.out,E25.out,E26.out,E27.out,E28.out,Bool.false_eq_true,if_true,if_false])),rfl⟩;rfl
  go_upto_region 45 with fail
  clear e28
  rcases Bool.eq_false_or_eq_true (s.toList == [115,104,111,114,116,101,110]) with e29 | e29
  all_goals
    have E29 := Lib.hid e29
  . go_wp2_with fail
    go_ret
    refine ⟨Eq.trans ?_ (congrArg (fun b => Ending.returned (.string b)) (show (⟨#[67,67,76]⟩ : ByteArray) = formsB s.toList n by simp only [formsB,E0.out,E1.out,E2.out,E3.out,E4.out,E5.out,E6.out,E7.out,E8.out,E9.out,E10.out,E11.out,E12.out,E13.out,E14.out,E15.out,E16.out,E17.out,E18.out,E19.out,E20.out,E21.out,E22.out,E23.out,E24.out,E25.out,E26.out,E27.out,E28.out,E29.out,Bool.false_eq_true,if_true,if_false])),rfl⟩;rfl
  go_upto_region 46 with fail
  clear e29
  rcases Bool.eq_false_or_eq_true (s.toList == [115,117,98,99,111,100,101]) with e30 | e30
  all_goals
    have E30 := Lib.hid e30
  . go_wp2_with fail
    go_ret
    refine ⟨Eq.trans ?_ (congrArg (fun b => Ending.returned (.string b)) (show (⟨#[67,67,76]⟩ : ByteArray) = formsB s.toList n by simp only [formsB,E0.out,E1.out,E2.out,E3.out,E4.out,E5.out,E6.out,E7.out,E8.out,E9.out,E10.out,E11.out,E12.out,E13.out,E14.out,E15.out,E16.out,E17.out,E18.out,E19.out,E20.out,E21.out,E22.out,E23.out,E24.out,E25.out,E26.out,E27.out,E28.out,E29.out,E30.out,Bool.false_eq_true,if_true,if_false])),rfl⟩;rfl
  go_upto_region 47 with fail
  clear e30
  rcases Bool.eq_false_or_eq_true (s.toList == [112,101,114,109,117,116,101]) with e31 | e31
  all_goals
    have E31 := Lib.hid e31
  . go_wp2_with fail
    go_ret
    refine ⟨Eq.trans ?_ (congrArg (fun b => Ending.returned (.string b)) (show (⟨#[67,67,76]⟩ : ByteArray) = formsB s.toList n by simp only [formsB,E0.out,E1.out,E2.out,E3.out,E4.out,E5.out,E6.out,E7.out,E8.out,E9.out,E10.out,E11.out,E12.out,E13.out,E14.out,E15.out,E16.out,E17.out,E18.out,E19.out,E20.out,E21.out,E22.out,E23.out,E24.out,E25.out,E26.out,E27.out,E28.out,E29.out,E30.out,E31.out,Bool.false_eq_true,if_true,if_false])),rfl⟩;rfl
  go_upto_region 49 with fail
  clear e31
  rcases Bool.eq_false_or_eq_true (s.toList == [115,117,98,102,105,101,108,100]) with e32 | e32
  all_goals
    have E32 := Lib.hid e32
  . go_wp2_with fail
    go_ret
    refine ⟨Eq.trans ?_ (congrArg (fun b => Ending.returned (.string b)) (show (⟨#[67,67,70]⟩ : ByteArray) = formsB s.toList n by simp only [formsB,E0.out,E1.out,E2.out,E3.out,E4.out,E5.out,E6.out,E7.out,E8.out,E9.out,E10.out,E11.out,E12.out,E13.out,E14.out,E15.out,E16.out,E17.out,E18.out,E19.out,E20.out,E21.out,E22.out,E23.out,E24.out,E25.out,E26.out,E27.out,E28.out,E29.out,E30.out,E31.out,E32.out,Bool.false_eq_true,if_true,if_false])),rfl⟩;rfl
  go_upto_region 50 with fail
  clear e32
  rcases Bool.eq_false_or_eq_true (s.toList == [116,114,97,99,101]) with e33 | e33
  all_goals
    have E33 := Lib.hid e33
  . go_wp2_with fail
    go_ret
    refine ⟨Eq.trans ?_ (congrArg (fun b => Ending.returned (.string b)) (show (⟨#[67,67,70]⟩ : ByteArray) = formsB s.toList n by simp only [formsB,E0.out,E1.out,E2.out,E3.out,E4.out,E5.out,E6.out,E7.out,E8.out,E9.out,E10.out,E11.out,E12.out,E13.out,E14.out,E15.out,E16.out,E17.out,E18.out,E19.out,E20.out,E21.out,E22.out,E23.out,E24.out,E25.out,E26.out,E27.out,E28.out,E29.out,E30.out,E31.out,E32.out,E33.out,Bool.false_eq_true,if_true,if_false])),rfl⟩;rfl
  go_upto_region 51 with fail
  clear e33
  rcases Bool.eq_false_or_eq_true (s.toList == [108,105,102,116]) with e34 | e34
  all_goals
    have E34 := Lib.hid e34
  . go_wp2_with fail
    go_ret
    refine ⟨Eq.trans ?_ (congrArg (fun b => Ending.returned (.string b)) (show (⟨#[67,67,70]⟩ : ByteArray) = formsB s.toList n by simp only [formsB,E0.out,E1.out,E2.out,E3.out,E4.out,E5.out,E6.out,E7.out,E8.out,E9.out,E10.out,E11.out,E12.out,E13.out,E14.out,E15.out,E16.out,E17.out,E18.out,E19.out,E20.out,E21.out,E22.out,E23.out,E24.out,E25.out,E26.out,E27.out,E28.out,E29.out,E30.out,E31.out,E32.out,E33.out,E34.out,Bool.false_eq_true,if_true,if_false])),rfl⟩;rfl
  go_upto_region 53 with fail
  clear e34
  rcases Bool.eq_false_or_eq_true (s.toList == [105,110,116,101,114,108,101,97,118,101]) with e35 | e35
  all_goals
    have E35 := Lib.hid e35
  . go_wp2_with fail
    go_ret
    refine ⟨Eq.trans ?_ (congrArg (fun b => Ending.returned (.string b)) (show (⟨#[67,67,78]⟩ : ByteArray) = formsB s.toList n by simp only [formsB,E0.out,E1.out,E2.out,E3.out,E4.out,E5.out,E6.out,E7.out,E8.out,E9.out,E10.out,E11.out,E12.out,E13.out,E14.out,E15.out,E16.out,E17.out,E18.out,E19.out,E20.out,E21.out,E22.out,E23.out,E24.out,E25.out,E26.out,E27.out,E28.out,E29.out,E30.out,E31.out,E32.out,E33.out,E34.out,E35.out,Bool.false_eq_true,if_true,if_false])),rfl⟩;rfl
  go_upto_region 55 with fail
  clear e35
  rcases Bool.eq_false_or_eq_true (s.toList == [99,111,110,99,97,116]) with e36 | e36
  all_goals
    have E36 := Lib.hid e36
  . go_wp2_with fail
    go_ret
    refine ⟨Eq.trans ?_ (congrArg (fun b => Ending.returned (.string b)) (show (⟨#[67,67,67,76]⟩ : ByteArray) = formsB s.toList n by simp only [formsB,E0.out,E1.out,E2.out,E3.out,E4.out,E5.out,E6.out,E7.out,E8.out,E9.out,E10.out,E11.out,E12.out,E13.out,E14.out,E15.out,E16.out,E17.out,E18.out,E19.out,E20.out,E21.out,E22.out,E23.out,E24.out,E25.out,E26.out,E27.out,E28.out,E29.out,E30.out,E31.out,E32.out,E33.out,E34.out,E35.out,E36.out,Bool.false_eq_true,if_true,if_false])),rfl⟩;rfl
  go_upto_region 57 with fail
  clear e36
  rcases Bool.eq_false_or_eq_true (s.toList == [120]) with e37 | e37
  all_goals
    have E37 := Lib.hid e37
  . go_wp2_with fail
    go_ret
    refine ⟨Eq.trans ?_ (congrArg (fun b => Ending.returned (.string b)) (show (⟨#[67,67,67,67]⟩ : ByteArray) = formsB s.toList n by simp only [formsB,E0.out,E1.out,E2.out,E3.out,E4.out,E5.out,E6.out,E7.out,E8.out,E9.out,E10.out,E11.out,E12.out,E13.out,E14.out,E15.out,E16.out,E17.out,E18.out,E19.out,E20.out,E21.out,E22.out,E23.out,E24.out,E25.out,E26.out,E27.out,E28.out,E29.out,E30.out,E31.out,E32.out,E33.out,E34.out,E35.out,E36.out,E37.out,Bool.false_eq_true,if_true,if_false])),rfl⟩;rfl
  go_wp2_with fail
  go_ret
  refine ⟨Eq.trans ?_ (congrArg (fun b => Ending.returned (.string b)) (show (⟨#[]⟩ : ByteArray) = formsB s.toList n by simp only [formsB,E0.out,E1.out,E2.out,E3.out,E4.out,E5.out,E6.out,E7.out,E8.out,E9.out,E10.out,E11.out,E12.out,E13.out,E14.out,E15.out,E16.out,E17.out,E18.out,E19.out,E20.out,E21.out,E22.out,E23.out,E24.out,E25.out,E26.out,E27.out,E28.out,E29.out,E30.out,E31.out,E32.out,E33.out,E34.out,E35.out,E36.out,E37.out,Bool.false_eq_true,if_false])),rfl⟩;rfl
end Go.Proofs.YtaddcadapbpkfaaGreatDoor

