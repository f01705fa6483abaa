/- Runs of the program's trig.Table, by the abstract machine. No condition. -/
import Derived.Test.YtdflbipaicpdcaaGreatDoorProg
import Derived.Test.YtdflbipaicpdcaaGreatDoorSFd
import Derived.Test.YtdflbipaicpdcaaGreatDoorSDe
import Derived.KernelRfl
set_option maxRecDepth 1000000
namespace Go.AM
open Go Go.Proofs

def tab_0_0 : KeyT := ((0, 0), (⟨46, false, 0, 0, []⟩, ⟨46, false, 0, 0, []⟩))
theorem tab_0_0_run : runTab Tryz.prog plugT 44 tab_0_0 = true := by kernel_rfl

def tab_1_1 : KeyT := ((1, 1), (⟨46, false, 1, 1, [.float .f64 4607182418800017408]⟩, ⟨46, false, 1, 1, [.float .f64 0]⟩))
theorem tab_1_1_run : runTab Tryz.prog plugT 44 tab_1_1 = true := by kernel_rfl

def tab_2_2 : KeyT := ((2, 2), (⟨46, false, 2, 2, [.float .f64 4607182418800017408, .float .f64 9223372036854775808]⟩, ⟨46, false, 2, 2, [.float .f64 0, .float .f64 4607182418800017408]⟩))
theorem tab_2_2_run : runTab Tryz.prog plugT 44 tab_2_2 = true := by kernel_rfl

def tab_3_4 : KeyT := ((3, 4), (⟨46, false, 4, 4, [.float .f64 4607182418800017408, .float .f64 4604544271217802189, .float .f64 9223372036854775808, .float .f64 13827916308072577997]⟩, ⟨46, false, 4, 4, [.float .f64 0, .float .f64 4604544271217802189, .float .f64 4607182418800017408, .float .f64 4604544271217802189]⟩))
theorem tab_3_4_run : runTab Tryz.prog plugT 44 tab_3_4 = true := by kernel_rfl

def tab_3_1 : KeyT := ((3, 1), (⟨46, false, 1, 1, [.float .f64 4607182418800017408]⟩, ⟨46, false, 1, 1, [.float .f64 0]⟩))
theorem tab_3_1_run : runTab Tryz.prog plugT 44 tab_3_1 = true := by kernel_rfl

def tab_4_2 : KeyT := ((4, 2), (⟨46, false, 2, 2, [.float .f64 4607182418800017408, .float .f64 4606496786581982534]⟩, ⟨46, false, 2, 2, [.float .f64 0, .float .f64 4600565431771507043]⟩))
theorem tab_4_2_run : runTab Tryz.prog plugT 44 tab_4_2 = true := by kernel_rfl

def tab_5_4 : KeyT := ((5, 4), (⟨46, false, 4, 4, [.float .f64 4607182418800017408, .float .f64 4607009347991985328, .float .f64 4606496786581982534, .float .f64 4605664432017547683]⟩, ⟨46, false, 4, 4, [.float .f64 0, .float .f64 4596196889902818827, .float .f64 4600565431771507043, .float .f64 4603179351334086856]⟩))
theorem tab_5_4_run : runTab Tryz.prog plugT 44 tab_5_4 = true := by kernel_rfl

def tab_4_8 : KeyT := ((4, 8), (⟨46, false, 8, 8, [.float .f64 4607182418800017408, .float .f64 4606496786581982534, .float .f64 4604544271217802189, .float .f64 4600565431771507043, .float .f64 9223372036854775808, .float .f64 13823937468626282851, .float .f64 13827916308072577997, .float .f64 13829868823436758342]⟩, ⟨46, false, 8, 8, [.float .f64 0, .float .f64 4600565431771507043, .float .f64 4604544271217802189, .float .f64 4606496786581982534, .float .f64 4607182418800017408, .float .f64 4606496786581982534, .float .f64 4604544271217802189, .float .f64 4600565431771507043]⟩))
theorem tab_4_8_run : runTab Tryz.prog plugT 44 tab_4_8 = true := by kernel_rfl

def tab_6_8 : KeyT := ((6, 8), (⟨46, false, 8, 8, [.float .f64 4607182418800017408, .float .f64 4607139046673687846, .float .f64 4607009347991985328, .float .f64 4606794571824115162, .float .f64 4606496786581982534, .float .f64 4606118860100255153, .float .f64 4605664432017547683, .float .f64 4605137878724712257]⟩, ⟨46, false, 8, 8, [.float .f64 0, .float .f64 4591727299969791020, .float .f64 4596196889902818827, .float .f64 4598900923775164166, .float .f64 4600565431771507043, .float .f64 4602163548591158843, .float .f64 4603179351334086856, .float .f64 4603889326261607894]⟩))
theorem tab_6_8_run : runTab Tryz.prog plugT 44 tab_6_8 = true := by kernel_rfl

def tab_5_16 : KeyT := ((5, 16), (⟨46, false, 16, 16, [.float .f64 4607182418800017408, .float .f64 4607009347991985328, .float .f64 4606496786581982534, .float .f64 4605664432017547683, .float .f64 4604544271217802189, .float .f64 4603179351334086856, .float .f64 4600565431771507043, .float .f64 4596196889902818827, .float .f64 9223372036854775808, .float .f64 13819568926757594635, .float .f64 13823937468626282851, .float .f64 13826551388188862664, .float .f64 13827916308072577997, .float .f64 13829036468872323491, .float .f64 13829868823436758342, .float .f64 13830381384846761136]⟩, ⟨46, false, 16, 16, [.float .f64 0, .float .f64 4596196889902818827, .float .f64 4600565431771507043, .float .f64 4603179351334086856, .float .f64 4604544271217802189, .float .f64 4605664432017547683, .float .f64 4606496786581982534, .float .f64 4607009347991985328, .float .f64 4607182418800017408, .float .f64 4607009347991985328, .float .f64 4606496786581982534, .float .f64 4605664432017547683, .float .f64 4604544271217802189, .float .f64 4603179351334086856, .float .f64 4600565431771507043, .float .f64 4596196889902818827]⟩))
theorem tab_5_16_run : runTab Tryz.prog plugT 44 tab_5_16 = true := by kernel_rfl

end Go.AM
