import Derived.Test.YtakebhleglnpjaaDoorJ1
import Derived.Test.YtakebhleglnpjaaDoorE30
import Derived.KernelRfl
namespace Go.Proofs.YtakebhleglnpjaaDoor
open Go Go.Proofs.YtakebhleglnpjaaDoorE

def gRow0 : List (IntKind × Int) := [(.u8, 0), (.u8, 1), (.u8, 28), (.u8, 2), (.u8, 29), (.u8, 14), (.u8, 24), (.u8, 3), (.u8, 30), (.u8, 22), (.u8, 20), (.u8, 15), (.u8, 25), (.u8, 17), (.u8, 4), (.u8, 8), (.u8, 31), (.u8, 27), (.u8, 13), (.u8, 23), (.u8, 21), (.u8, 19), (.u8, 16), (.u8, 7), (.u8, 26), (.u8, 12), (.u8, 18), (.u8, 6), (.u8, 11), (.u8, 5), (.u8, 10), (.u8, 9)]
def gRow1 : List (IntKind × Int) := [(.u8, 0), (.u8, 1), (.u8, 56), (.u8, 2), (.u8, 57), (.u8, 49), (.u8, 28), (.u8, 3), (.u8, 61), (.u8, 58), (.u8, 42), (.u8, 50), (.u8, 38), (.u8, 29), (.u8, 17), (.u8, 4), (.u8, 62), (.u8, 47), (.u8, 59), (.u8, 36), (.u8, 45), (.u8, 43), (.u8, 51), (.u8, 22), (.u8, 53), (.u8, 39), (.u8, 33), (.u8, 30), (.u8, 24), (.u8, 18), (.u8, 12), (.u8, 5), (.u8, 63), (.u8, 55), (.u8, 48), (.u8, 27), (.u8, 60), (.u8, 41), (.u8, 37), (.u8, 16), (.u8, 46), (.u8, 35), (.u8, 44), (.u8, 21), (.u8, 52), (.u8, 32), (.u8, 23), (.u8, 11), (.u8, 54), (.u8, 26), (.u8, 40), (.u8, 15), (.u8, 34), (.u8, 20), (.u8, 31), (.u8, 10), (.u8, 25), (.u8, 14), (.u8, 19), (.u8, 9), (.u8, 13), (.u8, 8), (.u8, 7), (.u8, 6)]
def globs : Globs
  | 0 => some gRow0
  | 1 => some gRow1
  | _ => none
theorem ok9 : okFn Tryd.prog globs (fun N => okDraw Tryd.prog globs N) 9 fn9 = true := by kernel_rfl
theorem ok10 : okFn Tryd.prog globs (fun N => okDraw Tryd.prog globs N) 10 fn10 = true := by kernel_rfl
theorem ok11 : okFn Tryd.prog globs (fun N => okDraw Tryd.prog globs N) 11 fn11 = true := by kernel_rfl
theorem ok12 : okFn Tryd.prog globs (fun N => okDraw Tryd.prog globs N) 12 fn12 = true := by kernel_rfl
theorem ok13 : okFn Tryd.prog globs (fun N => okDraw Tryd.prog globs N) 13 fn13 = true := by kernel_rfl
theorem ok14 : okFn Tryd.prog globs (fun N => okDraw Tryd.prog globs N) 14 fn14 = true := by kernel_rfl
theorem ok24 : okFn Tryd.prog globs (fun N => okDraw Tryd.prog globs N) 24 fn24 = true := by kernel_rfl
theorem ok28 : okFn Tryd.prog globs (fun N => okDraw Tryd.prog globs N) 28 fn28 = true := by kernel_rfl
theorem ok29 : okFn Tryd.prog globs (fun N => okDraw Tryd.prog globs N) 29 fn29 = true := by kernel_rfl
theorem ok30 : okFn Tryd.prog globs (fun N => okDraw Tryd.prog globs N) 30 fn30 = true := by kernel_rfl
theorem ok31 : okFn Tryd.prog globs (fun N => okDraw Tryd.prog globs N) 31 fn31 = true := by kernel_rfl
theorem ok32 : okFn Tryd.prog globs (fun N => okDraw Tryd.prog globs N) 32 fn32 = true := by kernel_rfl
theorem ok33 : okFn Tryd.prog globs (fun N => okDraw Tryd.prog globs N) 33 fn33 = true := by kernel_rfl
theorem ok34 : okFn Tryd.prog globs (fun N => okDraw Tryd.prog globs N) 34 fn34 = true := by kernel_rfl
theorem ok35 : okFn Tryd.prog globs (fun N => okDraw Tryd.prog globs N) 35 fn35 = true := by kernel_rfl
theorem ok36 : okFn Tryd.prog globs (fun N => okDraw Tryd.prog globs N) 36 fn36 = true := by kernel_rfl
theorem ok38 : okFn Tryd.prog globs (fun N => okDraw Tryd.prog globs N) 38 fn38 = true := by kernel_rfl
theorem ok48 : okFn Tryd.prog globs (fun N => okDraw Tryd.prog globs N) 48 fn48 = true := by kernel_rfl
theorem ok61 : okFn Tryd.prog globs (fun N => okDraw Tryd.prog globs N) 61 fn61 = true := by kernel_rfl
theorem ok63 : okFn Tryd.prog globs (fun N => okDraw Tryd.prog globs N) 63 fn63 = true := by kernel_rfl
theorem ok64 : okFn Tryd.prog globs (fun N => okDraw Tryd.prog globs N) 64 fn64 = true := by kernel_rfl
theorem ok65 : okFn Tryd.prog globs (fun N => okDraw Tryd.prog globs N) 65 fn65 = true := by kernel_rfl
theorem ok66 : okFn Tryd.prog globs (fun N => okDraw Tryd.prog globs N) 66 fn66 = true := by kernel_rfl
theorem ok67 : okFn Tryd.prog globs (fun N => okDraw Tryd.prog globs N) 67 fn67 = true := by kernel_rfl
theorem ok68 : okFn Tryd.prog globs (fun N => okDraw Tryd.prog globs N) 68 fn68 = true := by kernel_rfl
theorem ok69 : okFn Tryd.prog globs (fun N => okDraw Tryd.prog globs N) 69 fn69 = true := by kernel_rfl
theorem ok70 : okFn Tryd.prog globs (fun N => okDraw Tryd.prog globs N) 70 fn70 = true := by kernel_rfl
theorem ok71 : okFn Tryd.prog globs (fun N => okDraw Tryd.prog globs N) 71 fn71 = true := by kernel_rfl
theorem ok72 : okFn Tryd.prog globs (fun N => okDraw Tryd.prog globs N) 72 fn72 = true := by kernel_rfl
theorem ok73 : okFn Tryd.prog globs (fun N => okDraw Tryd.prog globs N) 73 fn73 = true := by kernel_rfl
theorem ok74 : okFn Tryd.prog globs (fun N => okDraw Tryd.prog globs N) 74 fn74 = true := by kernel_rfl
theorem ok75 : okFn Tryd.prog globs (fun N => okDraw Tryd.prog globs N) 75 fn75 = true := by kernel_rfl
theorem ok76 : okFn Tryd.prog globs (fun N => okDraw Tryd.prog globs N) 76 fn76 = true := by kernel_rfl
theorem ok81 : okFn Tryd.prog globs (fun N => okDraw Tryd.prog globs N) 81 fn81 = true := by kernel_rfl
theorem ok84 : okFn Tryd.prog globs (fun N => okDraw Tryd.prog globs N) 84 fn84 = true := by kernel_rfl
theorem ok85 : okFn Tryd.prog globs (fun N => okDraw Tryd.prog globs N) 85 fn85 = true := by kernel_rfl
theorem ok86 : okFn Tryd.prog globs (fun N => okDraw Tryd.prog globs N) 86 fn86 = true := by kernel_rfl
theorem ok87 : okFn Tryd.prog globs (fun N => okDraw Tryd.prog globs N) 87 fn87 = true := by kernel_rfl
theorem ok88 : okFn Tryd.prog globs (fun N => okDraw Tryd.prog globs N) 88 fn88 = true := by kernel_rfl
theorem ok89 : okFn Tryd.prog globs (fun N => okDraw Tryd.prog globs N) 89 fn89 = true := by kernel_rfl
theorem ok90 : okFn Tryd.prog globs (fun N => okDraw Tryd.prog globs N) 90 fn90 = true := by kernel_rfl
theorem ok91 : okFn Tryd.prog globs (fun N => okDraw Tryd.prog globs N) 91 fn91 = true := by kernel_rfl
theorem ok92 : okFn Tryd.prog globs (fun N => okDraw Tryd.prog globs N) 92 fn92 = true := by kernel_rfl
theorem ok93 : okFn Tryd.prog globs (fun N => okDraw Tryd.prog globs N) 93 fn93 = true := by kernel_rfl
theorem ok94 : okFn Tryd.prog globs (fun N => okDraw Tryd.prog globs N) 94 fn94 = true := by kernel_rfl
theorem ok95 : okFn Tryd.prog globs (fun N => okDraw Tryd.prog globs N) 95 fn95 = true := by kernel_rfl
theorem ok96 : okFn Tryd.prog globs (fun N => okDraw Tryd.prog globs N) 96 fn96 = true := by kernel_rfl
theorem ok97 : okFn Tryd.prog globs (fun N => okDraw Tryd.prog globs N) 97 fn97 = true := by kernel_rfl
theorem ok98 : okFn Tryd.prog globs (fun N => okDraw Tryd.prog globs N) 98 fn98 = true := by kernel_rfl
theorem ok99 : okFn Tryd.prog globs (fun N => okDraw Tryd.prog globs N) 99 fn99 = true := by kernel_rfl
theorem ok100 : okFn Tryd.prog globs (fun N => okDraw Tryd.prog globs N) 100 fn100 = true := by kernel_rfl
theorem ok101 : okFn Tryd.prog globs (fun N => okDraw Tryd.prog globs N) 101 fn101 = true := by kernel_rfl
theorem ok102 : okFn Tryd.prog globs (fun N => okDraw Tryd.prog globs N) 102 fn102 = true := by kernel_rfl
theorem ok103 : okFn Tryd.prog globs (fun N => okDraw Tryd.prog globs N) 103 fn103 = true := by kernel_rfl
theorem ok104 : okFn Tryd.prog globs (fun N => okDraw Tryd.prog globs N) 104 fn104 = true := by kernel_rfl
theorem ok105 : okFn Tryd.prog globs (fun N => okDraw Tryd.prog globs N) 105 fn105 = true := by kernel_rfl
theorem ok106 : okFn Tryd.prog globs (fun N => okDraw Tryd.prog globs N) 106 fn106 = true := by kernel_rfl
theorem ok107 : okFn Tryd.prog globs (fun N => okDraw Tryd.prog globs N) 107 fn107 = true := by kernel_rfl
theorem ok108 : okFn Tryd.prog globs (fun N => okDraw Tryd.prog globs N) 108 fn108 = true := by kernel_rfl
theorem ok109 : okFn Tryd.prog globs (fun N => okDraw Tryd.prog globs N) 109 fn109 = true := by kernel_rfl
theorem ok110 : okFn Tryd.prog globs (fun N => okDraw Tryd.prog globs N) 110 fn110 = true := by kernel_rfl
theorem ok111 : okFn Tryd.prog globs (fun N => okDraw Tryd.prog globs N) 111 fn111 = true := by kernel_rfl
theorem ok112 : okFn Tryd.prog globs (fun N => okDraw Tryd.prog globs N) 112 fn112 = true := by kernel_rfl
theorem ok113 : okFn Tryd.prog globs (fun N => okDraw Tryd.prog globs N) 113 fn113 = true := by kernel_rfl
theorem ok130 : okFn Tryd.prog globs (fun N => okDraw Tryd.prog globs N) 130 fn130 = true := by kernel_rfl
theorem ok131 : okFn Tryd.prog globs (fun N => okDraw Tryd.prog globs N) 131 fn131 = true := by kernel_rfl
theorem ok132 : okFn Tryd.prog globs (fun N => okDraw Tryd.prog globs N) 132 fn132 = true := by kernel_rfl
theorem ok133 : okFn Tryd.prog globs (fun N => okDraw Tryd.prog globs N) 133 fn133 = true := by kernel_rfl
theorem ok134 : okFn Tryd.prog globs (fun N => okDraw Tryd.prog globs N) 134 fn134 = true := by kernel_rfl
theorem ok135 : okFn Tryd.prog globs (fun N => okDraw Tryd.prog globs N) 135 fn135 = true := by kernel_rfl
set_option maxRecDepth 1000000 in
theorem okAll : ∀ f fn, ctx.code f = some fn → okFn Tryd.prog globs (fun N => okDraw Tryd.prog globs N) f fn = true := by
  intro f fn h
  change code f = some fn at h
  unfold code at h
  split at h
  · cases h; exact ok9
  · cases h; exact ok10
  · cases h; exact ok11
  · cases h; exact ok12
  · cases h; exact ok13
  · cases h; exact ok14
  · cases h; exact ok24
  · cases h; exact ok28
  · cases h; exact ok29
  · cases h; exact ok30
  · cases h; exact ok31
  · cases h; exact ok32
  · cases h; exact ok33
  · cases h; exact ok34
  · cases h; exact ok35
  · cases h; exact ok36
  · cases h; exact ok38
  · cases h; exact ok48
  · cases h; exact ok61
  · cases h; exact ok63
  · cases h; exact ok64
  · cases h; exact ok65
  · cases h; exact ok66
  · cases h; exact ok67
  · cases h; exact ok68
  · cases h; exact ok69
  · cases h; exact ok70
  · cases h; exact ok71
  · cases h; exact ok72
  · cases h; exact ok73
  · cases h; exact ok74
  · cases h; exact ok75
  · cases h; exact ok76
  · cases h; exact ok81
  · cases h; exact ok84
  · cases h; exact ok85
  · cases h; exact ok86
  · cases h; exact ok87
  · cases h; exact ok88
  · cases h; exact ok89
  · cases h; exact ok90
  · cases h; exact ok91
  · cases h; exact ok92
  · cases h; exact ok93
  · cases h; exact ok94
  · cases h; exact ok95
  · cases h; exact ok96
  · cases h; exact ok97
  · cases h; exact ok98
  · cases h; exact ok99
  · cases h; exact ok100
  · cases h; exact ok101
  · cases h; exact ok102
  · cases h; exact ok103
  · cases h; exact ok104
  · cases h; exact ok105
  · cases h; exact ok106
  · cases h; exact ok107
  · cases h; exact ok108
  · cases h; exact ok109
  · cases h; exact ok110
  · cases h; exact ok111
  · cases h; exact ok112
  · cases h; exact ok113
  · cases h; exact ok130
  · cases h; exact ok131
  · cases h; exact ok132
  · cases h; exact ok133
  · cases h; exact ok134
  · cases h; exact ok135
  · cases h
/-- What is evaluated is what the program does. -/
theorem sound : CallOK Tryd.prog globs (evW ctx) := ev_sound okAll
end Go.Proofs.YtakebhleglnpjaaDoor
