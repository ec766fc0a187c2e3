import Derived.Test.YtljgncbdagmeeaaDoorL1
import Derived.Test.YtljgncbdagmeeaaDoorE30
import Derived.KernelRfl
import Derived.Test.YtljgncbdagmeeaaDoorLast
namespace Go.Proofs.YtljgncbdagmeeaaDoor
open Go Go.Proofs.YtljgncbdagmeeaaDoorE

def gRow0 : List (IntKind × Int) := [(.u8, 0), (.u8, 1), (.u8, 28), (.u8, 2), (.u8, 29), (.u8, 14), (.u8, 24), (.u8, 3), (.u8, 30), (.u8, 22), (.u8, 20), (.u8, 15), (.u8, 25), (.u8, 17), (.u8, 4), (.u8, 8), (.u8, 31), (.u8, 27), (.u8, 13), (.u8, 23), (.u8, 21), (.u8, 19), (.u8, 16), (.u8, 7), (.u8, 26), (.u8, 12), (.u8, 18), (.u8, 6), (.u8, 11), (.u8, 5), (.u8, 10), (.u8, 9)]
def gRow1 : List (IntKind × Int) := [(.u8, 0), (.u8, 1), (.u8, 56), (.u8, 2), (.u8, 57), (.u8, 49), (.u8, 28), (.u8, 3), (.u8, 61), (.u8, 58), (.u8, 42), (.u8, 50), (.u8, 38), (.u8, 29), (.u8, 17), (.u8, 4), (.u8, 62), (.u8, 47), (.u8, 59), (.u8, 36), (.u8, 45), (.u8, 43), (.u8, 51), (.u8, 22), (.u8, 53), (.u8, 39), (.u8, 33), (.u8, 30), (.u8, 24), (.u8, 18), (.u8, 12), (.u8, 5), (.u8, 63), (.u8, 55), (.u8, 48), (.u8, 27), (.u8, 60), (.u8, 41), (.u8, 37), (.u8, 16), (.u8, 46), (.u8, 35), (.u8, 44), (.u8, 21), (.u8, 52), (.u8, 32), (.u8, 23), (.u8, 11), (.u8, 54), (.u8, 26), (.u8, 40), (.u8, 15), (.u8, 34), (.u8, 20), (.u8, 31), (.u8, 10), (.u8, 25), (.u8, 14), (.u8, 19), (.u8, 9), (.u8, 13), (.u8, 8), (.u8, 7), (.u8, 6)]
def globs : Globs
  | 0 => some gRow0
  | 1 => some gRow1
  | _ => none
theorem ok4 : okFn Tryd.prog globs (fun N => okDraw Tryd.prog globs N) 4 fn4 = true := by kernel_rfl
theorem ok13 : okFn Tryd.prog globs (fun N => okDraw Tryd.prog globs N) 13 fn13 = true := by kernel_rfl
theorem ok14 : okFn Tryd.prog globs (fun N => okDraw Tryd.prog globs N) 14 fn14 = true := by kernel_rfl
theorem ok16 : okFn Tryd.prog globs (fun N => okDraw Tryd.prog globs N) 16 fn16 = true := by kernel_rfl
theorem ok19 : okFn Tryd.prog globs (fun N => okDraw Tryd.prog globs N) 19 fn19 = true := by kernel_rfl
theorem ok20 : okFn Tryd.prog globs (fun N => okDraw Tryd.prog globs N) 20 fn20 = true := by kernel_rfl
theorem ok21 : okFn Tryd.prog globs (fun N => okDraw Tryd.prog globs N) 21 fn21 = true := by kernel_rfl
theorem ok22 : okFn Tryd.prog globs (fun N => okDraw Tryd.prog globs N) 22 fn22 = true := by kernel_rfl
theorem ok24 : okFn Tryd.prog globs (fun N => okDraw Tryd.prog globs N) 24 fn24 = true := by kernel_rfl
theorem ok25 : okFn Tryd.prog globs (fun N => okDraw Tryd.prog globs N) 25 fn25 = true := by kernel_rfl
theorem ok38 : okFn Tryd.prog globs (fun N => okDraw Tryd.prog globs N) 38 fn38 = true := by kernel_rfl
theorem ok39 : okFn Tryd.prog globs (fun N => okDraw Tryd.prog globs N) 39 fn39 = true := by kernel_rfl
theorem ok40 : okFn Tryd.prog globs (fun N => okDraw Tryd.prog globs N) 40 fn40 = true := by kernel_rfl
theorem ok41 : okFn Tryd.prog globs (fun N => okDraw Tryd.prog globs N) 41 fn41 = true := by kernel_rfl
theorem ok42 : okFn Tryd.prog globs (fun N => okDraw Tryd.prog globs N) 42 fn42 = true := by kernel_rfl
theorem ok43 : okFn Tryd.prog globs (fun N => okDraw Tryd.prog globs N) 43 fn43 = true := by kernel_rfl
theorem ok44 : okFn Tryd.prog globs (fun N => okDraw Tryd.prog globs N) 44 fn44 = true := by kernel_rfl
theorem ok48 : okFn Tryd.prog globs (fun N => okDraw Tryd.prog globs N) 48 fn48 = true := by kernel_rfl
theorem ok49 : okFn Tryd.prog globs (fun N => okDraw Tryd.prog globs N) 49 fn49 = true := by kernel_rfl
theorem ok50 : okFn Tryd.prog globs (fun N => okDraw Tryd.prog globs N) 50 fn50 = true := by kernel_rfl
theorem ok51 : okFn Tryd.prog globs (fun N => okDraw Tryd.prog globs N) 51 fn51 = true := by kernel_rfl
theorem ok52 : okFn Tryd.prog globs (fun N => okDraw Tryd.prog globs N) 52 fn52 = true := by kernel_rfl
theorem ok53 : okFn Tryd.prog globs (fun N => okDraw Tryd.prog globs N) 53 fn53 = true := by kernel_rfl
theorem ok54 : okFn Tryd.prog globs (fun N => okDraw Tryd.prog globs N) 54 fn54 = true := by kernel_rfl
theorem ok55 : okFn Tryd.prog globs (fun N => okDraw Tryd.prog globs N) 55 fn55 = true := by kernel_rfl
theorem ok56 : okFn Tryd.prog globs (fun N => okDraw Tryd.prog globs N) 56 fn56 = true := by kernel_rfl
theorem ok57 : okFn Tryd.prog globs (fun N => okDraw Tryd.prog globs N) 57 fn57 = true := by kernel_rfl
theorem ok58 : okFn Tryd.prog globs (fun N => okDraw Tryd.prog globs N) 58 fn58 = true := by kernel_rfl
theorem ok60 : okFn Tryd.prog globs (fun N => okDraw Tryd.prog globs N) 60 fn60 = true := by kernel_rfl
theorem ok64 : okFn Tryd.prog globs (fun N => okDraw Tryd.prog globs N) 64 fn64 = true := by kernel_rfl
theorem ok67 : okFn Tryd.prog globs (fun N => okDraw Tryd.prog globs N) 67 fn67 = true := by kernel_rfl
theorem ok68 : okFn Tryd.prog globs (fun N => okDraw Tryd.prog globs N) 68 fn68 = true := by kernel_rfl
theorem ok69 : okFn Tryd.prog globs (fun N => okDraw Tryd.prog globs N) 69 fn69 = true := by kernel_rfl
theorem ok70 : okFn Tryd.prog globs (fun N => okDraw Tryd.prog globs N) 70 fn70 = true := by kernel_rfl
theorem ok71 : okFn Tryd.prog globs (fun N => okDraw Tryd.prog globs N) 71 fn71 = true := by kernel_rfl
theorem ok72 : okFn Tryd.prog globs (fun N => okDraw Tryd.prog globs N) 72 fn72 = true := by kernel_rfl
theorem ok73 : okFn Tryd.prog globs (fun N => okDraw Tryd.prog globs N) 73 fn73 = true := by kernel_rfl
theorem ok74 : okFn Tryd.prog globs (fun N => okDraw Tryd.prog globs N) 74 fn74 = true := by kernel_rfl
theorem ok75 : okFn Tryd.prog globs (fun N => okDraw Tryd.prog globs N) 75 fn75 = true := by kernel_rfl
theorem ok76 : okFn Tryd.prog globs (fun N => okDraw Tryd.prog globs N) 76 fn76 = true := by kernel_rfl
theorem ok77 : okFn Tryd.prog globs (fun N => okDraw Tryd.prog globs N) 77 fn77 = true := by kernel_rfl
theorem ok78 : okFn Tryd.prog globs (fun N => okDraw Tryd.prog globs N) 78 fn78 = true := by kernel_rfl
theorem ok79 : okFn Tryd.prog globs (fun N => okDraw Tryd.prog globs N) 79 fn79 = true := by kernel_rfl
theorem ok80 : okFn Tryd.prog globs (fun N => okDraw Tryd.prog globs N) 80 fn80 = true := by kernel_rfl
theorem ok81 : okFn Tryd.prog globs (fun N => okDraw Tryd.prog globs N) 81 fn81 = true := by kernel_rfl
theorem ok82 : okFn Tryd.prog globs (fun N => okDraw Tryd.prog globs N) 82 fn82 = true := by kernel_rfl
theorem ok83 : okFn Tryd.prog globs (fun N => okDraw Tryd.prog globs N) 83 fn83 = true := by kernel_rfl
theorem ok84 : okFn Tryd.prog globs (fun N => okDraw Tryd.prog globs N) 84 fn84 = true := by kernel_rfl
theorem ok85 : okFn Tryd.prog globs (fun N => okDraw Tryd.prog globs N) 85 fn85 = true := by kernel_rfl
theorem ok86 : okFn Tryd.prog globs (fun N => okDraw Tryd.prog globs N) 86 fn86 = true := by kernel_rfl
theorem ok98 : okFn Tryd.prog globs (fun N => okDraw Tryd.prog globs N) 98 fn98 = true := by kernel_rfl
theorem ok99 : okFn Tryd.prog globs (fun N => okDraw Tryd.prog globs N) 99 fn99 = true := by kernel_rfl
theorem ok100 : okFn Tryd.prog globs (fun N => okDraw Tryd.prog globs N) 100 fn100 = true := by kernel_rfl
theorem ok101 : okFn Tryd.prog globs (fun N => okDraw Tryd.prog globs N) 101 fn101 = true := by kernel_rfl
theorem ok102 : okFn Tryd.prog globs (fun N => okDraw Tryd.prog globs N) 102 fn102 = true := by kernel_rfl
theorem ok105 : okFn Tryd.prog globs (fun N => okDraw Tryd.prog globs N) 105 fn105 = true := by kernel_rfl
theorem ok107 : okFn Tryd.prog globs (fun N => okDraw Tryd.prog globs N) 107 fn107 = true := by kernel_rfl
theorem ok108 : okFn Tryd.prog globs (fun N => okDraw Tryd.prog globs N) 108 fn108 = true := by kernel_rfl
theorem ok109 : okFn Tryd.prog globs (fun N => okDraw Tryd.prog globs N) 109 fn109 = true := by kernel_rfl
theorem ok110 : okFn Tryd.prog globs (fun N => okDraw Tryd.prog globs N) 110 fn110 = true := by kernel_rfl
theorem ok111 : okFn Tryd.prog globs (fun N => okDraw Tryd.prog globs N) 111 fn111 = true := by kernel_rfl
theorem ok112 : okFn Tryd.prog globs (fun N => okDraw Tryd.prog globs N) 112 fn112 = true := by kernel_rfl
theorem ok113 : okFn Tryd.prog globs (fun N => okDraw Tryd.prog globs N) 113 fn113 = true := by kernel_rfl
theorem ok114 : okFn Tryd.prog globs (fun N => okDraw Tryd.prog globs N) 114 fn114 = true := by kernel_rfl
theorem ok115 : okFn Tryd.prog globs (fun N => okDraw Tryd.prog globs N) 115 fn115 = true := by kernel_rfl
theorem ok116 : okFn Tryd.prog globs (fun N => okDraw Tryd.prog globs N) 116 fn116 = true := by kernel_rfl
theorem ok117 : okFn Tryd.prog globs (fun N => okDraw Tryd.prog globs N) 117 fn117 = true := by kernel_rfl
theorem ok118 : okFn Tryd.prog globs (fun N => okDraw Tryd.prog globs N) 118 fn118 = true := by kernel_rfl
theorem ok119 : okFn Tryd.prog globs (fun N => okDraw Tryd.prog globs N) 119 fn119 = true := by kernel_rfl
theorem ok120 : okFn Tryd.prog globs (fun N => okDraw Tryd.prog globs N) 120 fn120 = true := by kernel_rfl
theorem ok121 : okFn Tryd.prog globs (fun N => okDraw Tryd.prog globs N) 121 fn121 = true := by kernel_rfl
theorem ok128 : okFn Tryd.prog globs (fun N => okDraw Tryd.prog globs N) 128 fn128 = true := by kernel_rfl
theorem ok129 : okFn Tryd.prog globs (fun N => okDraw Tryd.prog globs N) 129 fn129 = true := by kernel_rfl
theorem ok130 : okFn Tryd.prog globs (fun N => okDraw Tryd.prog globs N) 130 fn130 = true := by kernel_rfl
theorem ok131 : okFn Tryd.prog globs (fun N => okDraw Tryd.prog globs N) 131 fn131 = true := by kernel_rfl
theorem ok132 : okFn Tryd.prog globs (fun N => okDraw Tryd.prog globs N) 132 fn132 = true := by kernel_rfl
theorem ok133 : okFn Tryd.prog globs (fun N => okDraw Tryd.prog globs N) 133 fn133 = true := by kernel_rfl
theorem ok134 : okFn Tryd.prog globs (fun N => okDraw Tryd.prog globs N) 134 fn134 = true := by kernel_rfl
theorem ok135 : okFn Tryd.prog globs (fun N => okDraw Tryd.prog globs N) 135 fn135 = true := by kernel_rfl
theorem ok136 : okFn Tryd.prog globs (fun N => okDraw Tryd.prog globs N) 136 fn136 = true := by kernel_rfl
theorem ok137 : okFn Tryd.prog globs (fun N => okDraw Tryd.prog globs N) 137 fn137 = true := by kernel_rfl
theorem ok138 : okFn Tryd.prog globs (fun N => okDraw Tryd.prog globs N) 138 fn138 = true := by kernel_rfl
theorem ok139 : okFn Tryd.prog globs (fun N => okDraw Tryd.prog globs N) 139 fn139 = true := by kernel_rfl
theorem ok141 : okFn Tryd.prog globs (fun N => okDraw Tryd.prog globs N) 141 fn141 = true := by kernel_rfl
theorem ok142 : okFn Tryd.prog globs (fun N => okDraw Tryd.prog globs N) 142 fn142 = true := by kernel_rfl
theorem ok143 : okFn Tryd.prog globs (fun N => okDraw Tryd.prog globs N) 143 fn143 = true := by kernel_rfl
theorem ok144 : okFn Tryd.prog globs (fun N => okDraw Tryd.prog globs N) 144 fn144 = true := by kernel_rfl
theorem ok145 : okFn Tryd.prog globs (fun N => okDraw Tryd.prog globs N) 145 fn145 = true := by kernel_rfl
theorem ok146 : okFn Tryd.prog globs (fun N => okDraw Tryd.prog globs N) 146 fn146 = true := by kernel_rfl
theorem ok147 : okFn Tryd.prog globs (fun N => okDraw Tryd.prog globs N) 147 fn147 = true := by kernel_rfl
theorem ok148 : okFn Tryd.prog globs (fun N => okDraw Tryd.prog globs N) 148 fn148 = true := by kernel_rfl
theorem ok149 : okFn Tryd.prog globs (fun N => okDraw Tryd.prog globs N) 149 fn149 = true := by kernel_rfl
theorem ok150 : okFn Tryd.prog globs (fun N => okDraw Tryd.prog globs N) 150 fn150 = true := by kernel_rfl
theorem ok151 : okFn Tryd.prog globs (fun N => okDraw Tryd.prog globs N) 151 fn151 = true := by kernel_rfl
theorem ok161 : okFn Tryd.prog globs (fun N => okDraw Tryd.prog globs N) 161 fn161 = true := by kernel_rfl
theorem ok162 : okFn Tryd.prog globs (fun N => okDraw Tryd.prog globs N) 162 fn162 = true := by kernel_rfl
theorem ok163 : okFn Tryd.prog globs (fun N => okDraw Tryd.prog globs N) 163 fn163 = true := by kernel_rfl
theorem ok164 : okFn Tryd.prog globs (fun N => okDraw Tryd.prog globs N) 164 fn164 = true := by kernel_rfl
theorem ok165 : okFn Tryd.prog globs (fun N => okDraw Tryd.prog globs N) 165 fn165 = true := by kernel_rfl
theorem ok170 : okFn Tryd.prog globs (fun N => okDraw Tryd.prog globs N) 170 fn170 = true := by kernel_rfl
set_option maxRecDepth 1000000 in
theorem okAll : ∀ f fn, ctx.code f = some fn → okFn Tryd.prog globs (fun N => okDraw Tryd.prog globs N) f fn = true ∨ SpecOK Tryd.prog f fn := by
  intro f fn h
  change code f = some fn at h
  unfold code at h
  split at h
  · cases h; exact .inl ok4
  · cases h; exact .inl ok13
  · cases h; exact .inl ok14
  · cases h; exact .inl ok16
  · cases h; exact .inl ok19
  · cases h; exact .inl ok20
  · cases h; exact .inl ok21
  · cases h; exact .inl ok22
  · cases h; exact .inr Last.special
  · cases h; exact .inl ok24
  · cases h; exact .inl ok25
  · cases h; exact .inl ok38
  · cases h; exact .inl ok39
  · cases h; exact .inl ok40
  · cases h; exact .inl ok41
  · cases h; exact .inl ok42
  · cases h; exact .inl ok43
  · cases h; exact .inl ok44
  · cases h; exact .inl ok48
  · cases h; exact .inl ok49
  · cases h; exact .inl ok50
  · cases h; exact .inl ok51
  · cases h; exact .inl ok52
  · cases h; exact .inl ok53
  · cases h; exact .inl ok54
  · cases h; exact .inl ok55
  · cases h; exact .inl ok56
  · cases h; exact .inl ok57
  · cases h; exact .inl ok58
  · cases h; exact .inl ok60
  · cases h; exact .inl ok64
  · cases h; exact .inl ok67
  · cases h; exact .inl ok68
  · cases h; exact .inl ok69
  · cases h; exact .inl ok70
  · cases h; exact .inl ok71
  · cases h; exact .inl ok72
  · cases h; exact .inl ok73
  · cases h; exact .inl ok74
  · cases h; exact .inl ok75
  · cases h; exact .inl ok76
  · cases h; exact .inl ok77
  · cases h; exact .inl ok78
  · cases h; exact .inl ok79
  · cases h; exact .inl ok80
  · cases h; exact .inl ok81
  · cases h; exact .inl ok82
  · cases h; exact .inl ok83
  · cases h; exact .inl ok84
  · cases h; exact .inl ok85
  · cases h; exact .inl ok86
  · cases h; exact .inl ok98
  · cases h; exact .inl ok99
  · cases h; exact .inl ok100
  · cases h; exact .inl ok101
  · cases h; exact .inl ok102
  · cases h; exact .inl ok105
  · cases h; exact .inl ok107
  · cases h; exact .inl ok108
  · cases h; exact .inl ok109
  · cases h; exact .inl ok110
  · cases h; exact .inl ok111
  · cases h; exact .inl ok112
  · cases h; exact .inl ok113
  · cases h; exact .inl ok114
  · cases h; exact .inl ok115
  · cases h; exact .inl ok116
  · cases h; exact .inl ok117
  · cases h; exact .inl ok118
  · cases h; exact .inl ok119
  · cases h; exact .inl ok120
  · cases h; exact .inl ok121
  · cases h; exact .inl ok128
  · cases h; exact .inl ok129
  · cases h; exact .inl ok130
  · cases h; exact .inl ok131
  · cases h; exact .inl ok132
  · cases h; exact .inl ok133
  · cases h; exact .inl ok134
  · cases h; exact .inl ok135
  · cases h; exact .inl ok136
  · cases h; exact .inl ok137
  · cases h; exact .inl ok138
  · cases h; exact .inl ok139
  · cases h; exact .inl ok141
  · cases h; exact .inl ok142
  · cases h; exact .inl ok143
  · cases h; exact .inl ok144
  · cases h; exact .inl ok145
  · cases h; exact .inl ok146
  · cases h; exact .inl ok147
  · cases h; exact .inl ok148
  · cases h; exact .inl ok149
  · cases h; exact .inl ok150
  · cases h; exact .inl ok151
  · cases h; exact .inl ok161
  · cases h; exact .inl ok162
  · cases h; exact .inl ok163
  · cases h; exact .inl ok164
  · cases h; exact .inl ok165
  · cases h; exact .inl ok170
  · cases h
/-- What is evaluated is what the program does. -/
theorem sound : CallOK Tryd.prog globs (evW ctx) := ev_sound okAll
end Go.Proofs.YtljgncbdagmeeaaDoor
