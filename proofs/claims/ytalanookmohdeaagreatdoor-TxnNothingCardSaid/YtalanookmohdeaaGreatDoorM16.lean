/- TxnNothing: the walk. No condition. -/
import Derived.Test.YtalanookmohdeaaGreatDoorM15
import Derived.Test.YtalanookmohdeaaGreatDoorM11
import Derived.Test.YtalanookmohdeaaGreatDoorM8
import Derived.Test.YtalanookmohdeaaGreatDoorM6
namespace Go.Proofs.YtalanookmohdeaaGreatDoor
open Go.Sx
abbrev Ko (k:Int):Heap:= [(5,.cells [.string ({ data:= #[(116:UInt8),(114:UInt8),(101:UInt8),(101:UInt8)]}),iI (k),.iface 201 (pT 6)] 203),(6,.cells [.string ({ data:= #[(99:UInt8),(108:UInt8),(111:UInt8),(99:UInt8),(107:UInt8)]}),iI 0,.iface 72 (iI 5)] 203)]
abbrev FT (j b:Nat) (k:Int) (y0:Bool) (L:List aG):Heap:= [(29,.sem (ad (L.set j (bu b (DR k y0 (.string ({ data:= #[]})) (.bool false) sN (iI 0) (.nilIface) [])))))]
abbrev PE (j b nb:Nat) (k:Int) (y0:Bool) (L:List aG) (ws:List Wt):Heap:= [(29,.sem (ad (L.set j (aL b nb ws (fun nk ns Wr=>bd k nk ns Wr y0 (.string ({ data:= #[]})) (.bool false) sN (iI 0) (.iface 201 (pT 5)) (Ko k))))))]
abbrev ph:=fun(s q b kk:Nat) (c d e g now count holder:Int) (ins mks:List (Value×Value)) (L:List aG) h0 h1 h2 h3=>ab Tryz.prog 30 ((aD s q c d e g now count holder ins mks)++ [(29,.sem (ad L))]) 200 ((aD s q c d e g ((now)) ((count)) ((h0)) ins h1)++h2) (.call 15 (pK b kk:: [dc])) (.val (.bool h3))
section
set_option maxRecDepth 100000
set_option linter.unusedSectionVars false
variable {s q j b kk i0 nb:Nat}{c d e g now count holder k v0 x2 x4 x6:Int}{ins mks:List (Value×Value)}{y0 y1 y3 y5:Bool}{L:List aG}{ws:List Wt}{z1 z2:ByteArray}
variable (k0:L[j]? =some (bu b (qQ k y0 y1)))(k1:(decide (k≥0))=true)(k2:(!decide (k < c))=false)(k3:dv IntKind.i64 k mks 0=some none)(k4:dv IntKind.i64 k mks 0=some (some (i0,Value.int IntKind.i64 v0)))(k5:L[j]? =some (bu b (pO k y0 y1)))(k6:L[j]? =some (bu b (oy k y0 y1)))(k7:L[j]? =some (aL b nb ws (fun nk ns Wr=>ka k nk ns Wr y0)))(k8:(decide (holder≥0))=true)(k9:(decide (holder≥0))=false)(k10:L[j]? =some (bu b (pF k y0)))(k11:L[j]? =some (bu b (rh k y0)))(k12:L[j]? =some (bu b (ri k y0)))(k13:(holder !=k)=true)(k14:(holder !=k)=false)(k15:L[j]? =some (bu b (pU k y0)))(k16:(decide ((z1.data.toList.length:Int)≥1))=true)(k17:(!decide ((z1.data.toList.length:Int)≤16))=false)(k18:L[j]? =some (aL b nb ws (fun nk ns Wr=>kT k nk ns Wr y0 z1)))(k19:(decide (x2 < 1))=false)(k20:(decide (x2 > now))=false)(k21:(decide ((0:Int)≤0∧0 < (↑(q+1):Int)))=true)(k22:L[j]? =some (aL b nb ws (fun nk ns Wr=>kN k nk ns Wr y0 z1)))(k23:(decide ((0:Int)≤0∧0 < (↑(s+1):Int)))=true)(k24:(decide (de { data:= #[]} z1≤0))=true)(k25:L[j]? =some (aL b nb ws (fun nk ns Wr=>kU k nk ns Wr y0 z1)))(k26:dv IntKind.i64 k ins 0=some (some (i0,Value.int IntKind.i64 v0)))(k27:L[j]? =some (aL b nb ws (fun nk ns Wr=>kR k nk ns Wr y0 z1 z2)))(k28:L[j]? =some (aL b nb ws (fun nk ns Wr=>jf k nk ns Wr y0 z1 z2 y3 x4 y5)))(k29:(decide ((z1.data.toList.length:Int) > 16))=false)(k30:(decide ((z2.data.toList.length:Int) > 16))=false)(k31:(y3)=true)(k32:(!cH z2 { data:= #[]})=false)(k33:(y3)=false)(k34:(z1.data.toList.length.ble 4294967295)=true)(k35:(!decide (de z1 z2 < 0))=false)(k36:(now==g)=false)(k37:(now==g)=true)(k38:L[j]? =some (aL b nb ws (fun nk ns Wr=>i7 k nk ns Wr y0 z1 z2 y3 x4 y5)))(k39:L[j]? =some (aL b nb ws (fun nk ns Wr=>kf k nk ns Wr y0 z1)))(k40:(decide (x6 < 1))=false)(k41:(decide (x6 > now))=false)(k42:dv IntKind.i64 k ins 0=some none)(k43:L[j]? =some (aL b nb ws (fun nk ns Wr=>kV k nk ns Wr y0 z1 x2)))(k44:L[j]? =some (aL b nb ws (fun nk ns Wr=>jE k nk ns Wr y0 z1 z2 y3 x4 y5 x6)))(k45:L[j]? =some (aL b nb ws (fun nk ns Wr=>kO k nk ns Wr y0 z1 z2 y3 x4 y5)))(k46:L[j]? =some (aL b nb ws (fun nk ns Wr=>kM k nk ns Wr y0 z1 z2 y3 x4 y5)))
include k0 in
theorem BR:ph s q b kk c d e g now count holder ins mks L holder mks [(29,.sem (ad (L.set j (bu b (pO k (y0) (y1))))))] false:=
 bM k0 rfl rfl rfl rfl ⟨_,_,rfl⟩ (by decide) (HQ)
include k1 k2 k3 k5 in
theorem AY:ph s q b kk c d e g now count holder ins mks L holder (mks++ [(iI k,iI 0)]) [(29,.sem (ad (L.set j (bu b (oy k (y0) (y1))))))] false:=
 bM k5 rfl rfl rfl rfl ⟨_,_,rfl⟩ (by decide) (HK k1 k2 k3)
include k1 k2 k4 k5 in
theorem BV:ph s q b kk c d e g now count holder ins mks L holder (nK mks i0 (iI 0)) [(29,.sem (ad (L.set j (bu b (oy k (y0) (y1))))))] false:=
 bM k5 rfl rfl rfl rfl ⟨_,_,rfl⟩ (by decide) (Ii k1 k2 k4)
include k6 in
theorem A4:ph s q b kk c d e g now count holder ins mks L holder mks [(29,.sem (ad (L.set j (bu b (oI k (y0) (y1))))))] false:=
 bM k6 rfl rfl rfl rfl ⟨_,_,rfl⟩ (by decide) (HV)
include k1 k2 k3 k7 in
theorem Ay:ph s q b kk c d e g now count holder ins mks L holder mks (FT j b k y0 L) true:=
 Ck (X:=(fun nk ns Wr=>ka k nk ns Wr y0)) k7 rfl rfl rfl (fun _ _ _=>rfl) (fun _ _ _=>⟨_,_,rfl⟩) (by decide) (fun nk ns Wr _ _=>(IB k1 k2 k3))
include k1 k2 k4 k7 in
theorem Bl:ph s q b kk c d e g now count holder ins mks L holder (mks.eraseIdx i0) (FT j b k y0 L) true:=
 Ck (X:=(fun nk ns Wr=>ka k nk ns Wr y0)) k7 rfl rfl rfl (fun _ _ _=>rfl) (fun _ _ _=>⟨_,_,rfl⟩) (by decide) (fun nk ns Wr _ _=>(Im k1 k2 k4))
include k1 k2 k8 k10 in
theorem Bh:ph s q b kk c d e g now count holder ins mks L holder mks (FT j b k y0 L) true:=
 bM k10 rfl rfl rfl rfl ⟨_,_,rfl⟩ (by decide) (Hk k1 k2 k8)
include k1 k2 k9 k10 in
theorem Bi:ph s q b kk c d e g now count holder ins mks L k mks [(29,.sem (ad (L.set j (bu b (rh k (y0))))))] false:=
 bM k10 rfl rfl rfl rfl ⟨_,_,rfl⟩ (by decide) (Hf k1 k2 k9)
include k11 in
theorem Aw:ph s q b kk c d e g now count holder ins mks L holder mks [(29,.sem (ad (L.set j (bu b (ri k (y0))))))] false:=
 bM k11 rfl rfl rfl rfl ⟨_,_,rfl⟩ (by decide) (H2)
include k12 in
theorem A6:ph s q b kk c d e g now count holder ins mks L holder mks [(29,.sem (ad (L.set j (bu b (pU k (y0))))))] false:=
 bM k12 rfl rfl rfl rfl ⟨_,_,rfl⟩ (by decide) (Hp)
include k1 k2 k13 k15 in
theorem Au:ph s q b kk c d e g now count holder ins mks L holder mks (FT j b k y0 L) true:=
 bM k15 rfl rfl rfl rfl ⟨_,_,rfl⟩ (by decide) (Ik k1 k2 k13)
include k1 k2 k14 k15 in
theorem BW:ph s q b kk c d e g now count holder ins mks L (-0-1) mks (FT j b k y0 L) true:=
 bM k15 rfl rfl rfl rfl ⟨_,_,rfl⟩ (by decide) (JT k1 k2 k14)
include k16 k17 k18 in
theorem B9:ph s q b kk c d e g now count holder ins mks L holder mks [(29,.sem (ad (L.set j (aL b nb ws (fun nk ns Wr=>kf k (nk) (ns) Wr (y0) (z1))))))] false:=
 aK (X:=(fun nk ns Wr=>kT k nk ns Wr y0 z1)) (X':=(fun nk ns Wr=>kf k (nk) (ns) Wr (y0) (z1))) (nk':=id) (ns':=id) k18 rfl rfl rfl (fun _ _ _=>rfl) (fun _ _ _=>⟨_,_,rfl⟩) (by decide) rfl (fun _ h=>h) (fun _ h=>h) (fun nk ns Wr _ _=>(Hg k16 k17))
include k37 k39 in
theorem AF:ab Tryz.prog 30 ((aD s q c d e g now count holder ins mks)++ [(29,.sem (ad L))]) 200 ((aD s q c d e g ((now)) ((IntKind.i64.wrap (count+1))) ((holder)) ins mks)++(PE j b nb k y0 L ws)) (.call 15 (pK b kk:: [dc])) (.val (.bool true)):=
 aK (X:=(fun nk ns Wr=>kf k nk ns Wr y0 z1)) (X':=(fun nk ns Wr=>bd k nk ns Wr y0 (.string ({ data:= #[]})) (.bool false) sN (iI 0) (.iface 201 (pT 5)) (Ko k))) (nk':=id) (ns':=id) k39 rfl rfl rfl (fun _ _ _=>rfl) (fun _ _ _=>⟨_,_,rfl⟩) (by decide) rfl (fun _ h=>h) (fun _ h=>h) (fun nk ns Wr _ _=>(Iq k37))
include k36 k39 in
theorem BT:ab Tryz.prog 30 ((aD s q c d e g now count holder ins mks)++ [(29,.sem (ad L))]) 200 ((aD s q c d e g ((IntKind.i64.wrap (now+1))) ((IntKind.i64.wrap (count+1))) ((holder)) ins mks)++ [(29,.sem (ad (L.set j (aL b nb ws (fun nk ns Wr=>kV k (nk) (ns) Wr (y0) (z1) (IntKind.i64.wrap (now+1)))))))]) (.call 15 (pK b kk:: [dc])) (.val (.bool false)):=
 aK (X:=(fun nk ns Wr=>kf k nk ns Wr y0 z1)) (X':=(fun nk ns Wr=>kV k (nk) (ns) Wr (y0) (z1) (IntKind.i64.wrap (now+1)))) (nk':=id) (ns':=id) k39 rfl rfl rfl (fun _ _ _=>rfl) (fun _ _ _=>⟨_,_,rfl⟩) (by decide) rfl (fun _ h=>h) (fun _ h=>h) (fun nk ns Wr _ _=>(HS k36))
include k1 k2 k19 k20 k42 k43 in
theorem BP:ab Tryz.prog 30 ((aD s q c d e g now count holder ins mks)++ [(29,.sem (ad L))]) 200 ((aD s q c d e g ((now)) ((IntKind.i64.wrap (count+1))) ((holder)) (ins++ [(iI k,iI x2)]) mks)++ [(29,.sem (ad (L.set j (aL b nb ws (fun nk ns Wr=>kN k (nk) (ns) Wr (y0) (z1))))))]) (.call 15 (pK b kk:: [dc])) (.val (.bool false)):=
 aK (X:=(fun nk ns Wr=>kV k nk ns Wr y0 z1 x2)) (X':=(fun nk ns Wr=>kN k (nk) (ns) Wr (y0) (z1))) (nk':=id) (ns':=id) k43 rfl rfl rfl (fun _ _ _=>rfl) (fun _ _ _=>⟨_,_,rfl⟩) (by decide) rfl (fun _ h=>h) (fun _ h=>h) (fun nk ns Wr _ _=>(HO k1 k2 k19 k20 k42))
include k21 k22 in
theorem AD:ab Tryz.prog 30 ((aD s q c d e g now count holder ins mks)++ [(29,.sem (ad L))]) 200 ((aD s q c d e g ((now)) ((IntKind.i64.wrap (count+1))) ((holder)) ins mks)++ [(29,.sem (ad (L.set j (aL b nb ws (fun nk ns Wr=>kU k (nk) (ns) Wr (y0) (z1))))))]) (.call 15 (pK b kk:: [dc])) (.val (.bool false)):=
 aK (X:=(fun nk ns Wr=>kN k nk ns Wr y0 z1)) (X':=(fun nk ns Wr=>kU k (nk) (ns) Wr (y0) (z1))) (nk':=id) (ns':=id) k22 rfl rfl rfl (fun _ _ _=>rfl) (fun _ _ _=>⟨_,_,rfl⟩) (by decide) rfl (fun _ h=>h) (fun _ h=>h) (fun nk ns Wr _ _=>(HT k21))
include k23 k24 k25 in
theorem AZ:ab Tryz.prog 30 ((aD s q c d e g now count holder ins mks)++ [(29,.sem (ad L))]) 200 ((aD s q c d e g ((now)) ((IntKind.i64.wrap (count+1))) ((holder)) ins mks)++ [(29,.sem (ad (L.set j (aL b nb ws (fun nk ns Wr=>kR k (nk) (ns) Wr (y0) (z1) ({ data:= #[(116:UInt8),(114:UInt8),(101:UInt8),(101:UInt8)]}))))))]) (.call 15 (pK b kk:: [dc])) (.val (.bool false)):=
 aK (X:=(fun nk ns Wr=>kU k nk ns Wr y0 z1)) (X':=(fun nk ns Wr=>kR k (nk) (ns) Wr (y0) (z1) ({ data:= #[(116:UInt8),(114:UInt8),(101:UInt8),(101:UInt8)]}))) (nk':=id) (ns':=id) k25 rfl rfl rfl (fun _ _ _=>rfl) (fun _ _ _=>⟨_,_,rfl⟩) (by decide) rfl (fun _ h=>h) (fun _ h=>h) (fun nk ns Wr _ _=>(HL k23 k24))
include k1 k2 k26 k27 in
theorem B7:ab Tryz.prog 30 ((aD s q c d e g now count holder ins mks)++ [(29,.sem (ad L))]) 200 ((aD s q c d e g ((now)) ((IntKind.i64.wrap (count+1))) ((holder)) (ins.eraseIdx i0) mks)++ [(29,.sem (ad (L.set j (aL b nb ws (fun nk ns Wr=>bd k nk ns Wr y0 (.string ({ data:= #[]})) (.bool false) sN (iI 0) (.nilIface) [])))))]) (.call 15 (pK b kk:: [dc])) (.val (.bool true)):=
 aK (X:=(fun nk ns Wr=>kR k nk ns Wr y0 z1 z2)) (X':=(fun nk ns Wr=>bd k nk ns Wr y0 (.string ({ data:= #[]})) (.bool false) sN (iI 0) (.nilIface) [])) (nk':=id) (ns':=id) k27 rfl rfl rfl (fun _ _ _=>rfl) (fun _ _ _=>⟨_,_,rfl⟩) (by decide) rfl (fun _ h=>h) (fun _ h=>h) (fun nk ns Wr _ _=>(JR k1 k2 k26))
include k28 in
theorem B8:ph s q b kk c d e g now count holder ins mks L holder mks [(29,.sem (ad (L.set j (aL b nb ws (fun nk ns Wr=>i7 k (nk) (ns) Wr (y0) (z1) (z2) (y3) (x4) (y5))))))] false:=
 aK (X:=(fun nk ns Wr=>jf k nk ns Wr y0 z1 z2 y3 x4 y5)) (X':=(fun nk ns Wr=>i7 k (nk) (ns) Wr (y0) (z1) (z2) (y3) (x4) (y5))) (nk':=id) (ns':=id) k28 rfl rfl rfl (fun _ _ _=>rfl) (fun _ _ _=>⟨_,_,rfl⟩) (by decide) rfl (fun _ h=>h) (fun _ h=>h) (fun nk ns Wr _ _=>(Ih))
include k29 k30 k31 k32 k37 k38 in
theorem A0:ab Tryz.prog 30 ((aD s q c d e g now count holder ins mks)++ [(29,.sem (ad L))]) 200 ((aD s q c d e g ((now)) ((IntKind.i64.wrap (count+1))) ((holder)) ins mks)++(PE j b nb k y0 L ws)) (.call 15 (pK b kk:: [dc])) (.val (.bool true)):=
 aK (X:=(fun nk ns Wr=>i7 k nk ns Wr y0 z1 z2 y3 x4 y5)) (X':=(fun nk ns Wr=>bd k nk ns Wr y0 (.string ({ data:= #[]})) (.bool false) sN (iI 0) (.iface 201 (pT 5)) (Ko k))) (nk':=id) (ns':=id) k38 rfl rfl rfl (fun _ _ _=>rfl) (fun _ _ _=>⟨_,_,rfl⟩) (by decide) rfl (fun _ h=>h) (fun _ h=>h) (fun nk ns Wr _ _=>(Jk k29 k30 k31 k32 k37))
include k29 k30 k31 k32 k36 k38 in
theorem BG:ab Tryz.prog 30 ((aD s q c d e g now count holder ins mks)++ [(29,.sem (ad L))]) 200 ((aD s q c d e g ((IntKind.i64.wrap (now+1))) ((IntKind.i64.wrap (count+1))) ((holder)) ins mks)++ [(29,.sem (ad (L.set j (aL b nb ws (fun nk ns Wr=>jE k (nk) (ns) Wr (y0) (z1) (z2) (y3) (x4) (y5) (IntKind.i64.wrap (now+1)))))))]) (.call 15 (pK b kk:: [dc])) (.val (.bool false)):=
 aK (X:=(fun nk ns Wr=>i7 k nk ns Wr y0 z1 z2 y3 x4 y5)) (X':=(fun nk ns Wr=>jE k (nk) (ns) Wr (y0) (z1) (z2) (y3) (x4) (y5) (IntKind.i64.wrap (now+1)))) (nk':=id) (ns':=id) k38 rfl rfl rfl (fun _ _ _=>rfl) (fun _ _ _=>⟨_,_,rfl⟩) (by decide) rfl (fun _ h=>h) (fun _ h=>h) (fun nk ns Wr _ _=>(HP k29 k30 k31 k32 k36))
include k29 k30 k33 k34 k35 k37 k38 in
theorem Aq:ab Tryz.prog 30 ((aD s q c d e g now count holder ins mks)++ [(29,.sem (ad L))]) 200 ((aD s q c d e g ((now)) ((IntKind.i64.wrap (count+1))) ((holder)) ins mks)++(PE j b nb k y0 L ws)) (.call 15 (pK b kk:: [dc])) (.val (.bool true)):=
 aK (X:=(fun nk ns Wr=>i7 k nk ns Wr y0 z1 z2 y3 x4 y5)) (X':=(fun nk ns Wr=>bd k nk ns Wr y0 (.string ({ data:= #[]})) (.bool false) sN (iI 0) (.iface 201 (pT 5)) (Ko k))) (nk':=id) (ns':=id) k38 rfl rfl rfl (fun _ _ _=>rfl) (fun _ _ _=>⟨_,_,rfl⟩) (by decide) rfl (fun _ h=>h) (fun _ h=>h) (fun nk ns Wr _ _=>(HA k29 k30 k33 k34 k35 k37))
include k29 k30 k33 k34 k35 k36 k38 in
theorem Az:ab Tryz.prog 30 ((aD s q c d e g now count holder ins mks)++ [(29,.sem (ad L))]) 200 ((aD s q c d e g ((IntKind.i64.wrap (now+1))) ((IntKind.i64.wrap (count+1))) ((holder)) ins mks)++ [(29,.sem (ad (L.set j (aL b nb ws (fun nk ns Wr=>jE k (nk) (ns) Wr (y0) (z1) (z2) (y3) (x4) (y5) (IntKind.i64.wrap (now+1)))))))]) (.call 15 (pK b kk:: [dc])) (.val (.bool false)):=
 aK (X:=(fun nk ns Wr=>i7 k nk ns Wr y0 z1 z2 y3 x4 y5)) (X':=(fun nk ns Wr=>jE k (nk) (ns) Wr (y0) (z1) (z2) (y3) (x4) (y5) (IntKind.i64.wrap (now+1)))) (nk':=id) (ns':=id) k38 rfl rfl rfl (fun _ _ _=>rfl) (fun _ _ _=>⟨_,_,rfl⟩) (by decide) rfl (fun _ h=>h) (fun _ h=>h) (fun nk ns Wr _ _=>(Hn k29 k30 k33 k34 k35 k36))
include k1 k2 k40 k41 k42 k44 in
theorem BI:ab Tryz.prog 30 ((aD s q c d e g now count holder ins mks)++ [(29,.sem (ad L))]) 200 ((aD s q c d e g ((now)) ((IntKind.i64.wrap (count+1))) ((holder)) (ins++ [(iI k,iI x6)]) mks)++ [(29,.sem (ad (L.set j (aL b nb ws (fun nk ns Wr=>kO k (nk) (ns) Wr (y0) (z1) (z2) (y3) (x4) (y5))))))]) (.call 15 (pK b kk:: [dc])) (.val (.bool false)):=
 aK (X:=(fun nk ns Wr=>jE k nk ns Wr y0 z1 z2 y3 x4 y5 x6)) (X':=(fun nk ns Wr=>kO k (nk) (ns) Wr (y0) (z1) (z2) (y3) (x4) (y5))) (nk':=id) (ns':=id) k44 rfl rfl rfl (fun _ _ _=>rfl) (fun _ _ _=>⟨_,_,rfl⟩) (by decide) rfl (fun _ h=>h) (fun _ h=>h) (fun nk ns Wr _ _=>(HN k1 k2 k40 k41 k42))
include k21 k45 in
theorem A5:ab Tryz.prog 30 ((aD s q c d e g now count holder ins mks)++ [(29,.sem (ad L))]) 200 ((aD s q c d e g ((now)) ((IntKind.i64.wrap (count+1))) ((holder)) ins mks)++ [(29,.sem (ad (L.set j (aL b nb ws (fun nk ns Wr=>kM k (nk) (ns) Wr (y0) (z1) (z2) (y3) (x4) (y5))))))]) (.call 15 (pK b kk:: [dc])) (.val (.bool false)):=
 aK (X:=(fun nk ns Wr=>kO k nk ns Wr y0 z1 z2 y3 x4 y5)) (X':=(fun nk ns Wr=>kM k (nk) (ns) Wr (y0) (z1) (z2) (y3) (x4) (y5))) (nk':=id) (ns':=id) k45 rfl rfl rfl (fun _ _ _=>rfl) (fun _ _ _=>⟨_,_,rfl⟩) (by decide) rfl (fun _ h=>h) (fun _ h=>h) (fun nk ns Wr _ _=>(HY k21))
include k23 k24 k46 in
theorem Be:ab Tryz.prog 30 ((aD s q c d e g now count holder ins mks)++ [(29,.sem (ad L))]) 200 ((aD s q c d e g ((now)) ((IntKind.i64.wrap (count+1))) ((holder)) ins mks)++ [(29,.sem (ad (L.set j (aL b nb ws (fun nk ns Wr=>kQ k (nk) (ns) Wr (y0) (z1) (z2) (y3) (x4) (y5))))))]) (.call 15 (pK b kk:: [dc])) (.val (.bool false)):=
 aK (X:=(fun nk ns Wr=>kM k nk ns Wr y0 z1 z2 y3 x4 y5)) (X':=(fun nk ns Wr=>kQ k (nk) (ns) Wr (y0) (z1) (z2) (y3) (x4) (y5))) (nk':=id) (ns':=id) k46 rfl rfl rfl (fun _ _ _=>rfl) (fun _ _ _=>⟨_,_,rfl⟩) (by decide) rfl (fun _ h=>h) (fun _ h=>h) (fun nk ns Wr _ _=>(Jv k23 k24))
end
section
open Go.Sx
structure eQ where
 now:Int
 count:Int
 holder:Int
 il:List (Int×Int)
 ml:List (Int×Int)
def oc (s q:Nat) (c d e g:Int) (σ:eQ):Heap:=aD s q c d e g σ.now σ.count σ.holder (mp σ.il) (mp σ.ml)
structure kY (k g:Int) (u:Nat) (σ σ':eQ) (m m':Cs) (over:Bool):Prop where
 bt:m'.bt= !over
 bN:m'.bN < m.bN
 goal:m'.goal=m.goal
 act:over=false→m'.act=m.act∧m'.inside=m.inside
 ins:over=true→m'.isDone=true∧m'.inside= !(m.act==7 || m.act==8)
 zero:over=true→m.act=2∨m.act=5∨m'.isZero=true
 wf:m'.wf σ'.now u
 now:σ.now≤σ'.now∧σ'.now≤g
 count:σ.count≤σ'.count∧σ'.count≤σ.count+1
 nodup:(bS σ'.il).Nodup
 own:k∈bS σ'.il ↔ m'.walk=true
 others:∀x,x≠k→(x∈bS σ'.il ↔ x∈bS σ.il)
 norow:m.act≠5→∀y nb ws os,m'≠ .inn y nb ws (.rows os)
theorem Ad (z:ByteArray):de { data:= #[]} z≤0:=by
 have h:dr { data:= #[]} z=0:=rfl
 unfold de
 rw [h]
 have h2:decide ((0:Int)=((({ data:= #[]}:ByteArray).data.toList.length:Nat):Int))=true:=rfl
 rw [h2]
 split <;> first|decide|(rename_i e _;cases e)|simp_all
theorem fR {k c:Int} (h:k < c):(!decide (k < c))=false:=by rw [decide_eq_true h];rfl
theorem sn (s:Nat):decide ((0:Int)≤(0:Int)∧(0:Int) < (↑(s+(1:Nat)):Int))=true:=decide_eq_true ⟨Int.le_refl 0,by omega⟩
section
variable {s q:Nat}{c d e g:Int}{σ:eQ}{k:Int}{b kk j u:Nat}{L:List aG}
theorem cr {m m':Cs}{over:Bool}{now' count' holder':Int}{ml':List (Int×Int)} (hpend:m'.bt= !over) (hrank:Nat.ble (m'.bN+1) m.bN=true) (hgoal:m'.goal=m.goal) (hact:over=false→m'.act=m.act∧m'.inside=m.inside)
  (hins:over=true→m'.isDone=true∧m'.inside= !(m.act==7 || m.act==8)) (hzero:over=true→m.act=2∨m.act=5∨m'.isZero=true) (hwf:m'.wf now' u) (hnow:σ.now≤now'∧now'≤g) (hcount:σ.count≤count'∧count'≤σ.count+1)
  (hwalk:m'.walk=m.walk) (hn:(bS σ.il).Nodup) (hw:k∈bS σ.il ↔ m.walk=true) (hnr:m.act≠5→∀y nb ws os,m'≠ .inn y nb ws (.rows os):=by first|(intro h;exact absurd rfl h)|(intro _ _ _ _ _ h;cases h)):kY k g u σ ⟨now',count',holder',σ.il,ml'⟩ m m' over:=
 ⟨hpend,Nat.le_of_ble_eq_true hrank,hgoal,hact,hins,hzero,hwf,hnow,hcount,hn,by rw [hwalk];exact hw,fun _ _=>Iff.rfl,hnr⟩
theorem Dw {m m':Cs}{over:Bool}{count':Int}{x:Int} (hpend:m'.bt= !over) (hrank:Nat.ble (m'.bN+1) m.bN=true) (hgoal:m'.goal=m.goal) (hact:over=false→m'.act=m.act∧m'.inside=m.inside)
  (hins:over=true→m'.isDone=true∧m'.inside= !(m.act==7 || m.act==8)) (hzero:over=true→m.act=2∨m.act=5∨m'.isZero=true) (hwf:m'.wf σ.now u) (hg:σ.now≤g) (hcount:σ.count≤count'∧count'≤σ.count+1)
  (hwalk:m'.walk=true) (hn:(bS σ.il).Nodup) (hk:k ∉ bS σ.il) (hnr:m.act≠5→∀y nb ws os,m'≠ .inn y nb ws (.rows os):=by first|(intro h;exact absurd rfl h)|(intro _ _ _ _ _ h;cases h)):kY k g u σ ⟨σ.now,count',σ.holder,σ.il++ [(k,x)],σ.ml⟩ m m' over:=
 ⟨hpend,Nat.le_of_ble_eq_true hrank,hgoal,hact,hins,hzero,hwf,⟨Int.le_refl _,hg⟩,hcount,
  by
   show(bS (σ.il++ [(k,x)])).Nodup
   rw [ue]
   exact List.nodup_append.2 ⟨hn,by simp,fun a ha b hb e=>by simp at hb;subst hb;subst e;exact hk ha⟩,
  by
   show k∈bS (σ.il++ [(k,x)]) ↔ _
   rw [ue,hwalk];simp,
  fun y hy=>by
   show y∈bS (σ.il++ [(k,x)]) ↔ _
   rw [ue];simp [hy],hnr⟩
theorem tV {m m':Cs}{over:Bool}{count':Int}{i:Nat}{x:Int} (hpend:m'.bt= !over) (hrank:Nat.ble (m'.bN+1) m.bN=true) (hgoal:m'.goal=m.goal) (hact:over=false→m'.act=m.act∧m'.inside=m.inside)
  (hins:over=true→m'.isDone=true∧m'.inside= !(m.act==7 || m.act==8)) (hzero:over=true→m.act=2∨m.act=5∨m'.isZero=true) (hwf:m'.wf σ.now u) (hg:σ.now≤g) (hcount:σ.count≤count'∧count'≤σ.count+1)
  (hwalk:m'.walk=false) (hn:(bS σ.il).Nodup) (hk:σ.il[i]? =some (k,x)) (hnr:m.act≠5→∀y nb ws os,m'≠ .inn y nb ws (.rows os):=by first|(intro h;exact absurd rfl h)|(intro _ _ _ _ _ h;cases h)):kY k g u σ ⟨σ.now,count',σ.holder,σ.il.eraseIdx i,σ.ml⟩ m m' over:=
 have hh:=Eu hk hn
 ⟨hpend,Nat.le_of_ble_eq_true hrank,hgoal,hact,hins,hzero,hwf,⟨Int.le_refl _,hg⟩,hcount,hh.1,
  by rw [hwalk,hh.2 k];simp,
  fun y hy=>by rw [hh.2 y];simp [hy],hnr⟩
def Steps (s q:Nat) (c d e g:Int) (σ:eQ) (k:Int) (b kk j u:Nat) (L:List aG) (m:Cs):Prop:=∃σ' m' over,kY k g u σ σ' m m' over∧
 ab Tryz.prog 30 (oc s q c d e g σ++ [(29,.sem (ad L))]) 400 (oc s q c d e g σ'++ [(29,.sem (ad (L.set j (m'.res k b))))]) (.call 15 (.pointer (some ⟨b,0,some kk⟩):: [dc])) (.val (.bool over))
theorem vT {r:Bool} (y:Bool) (m:OM) (hm:m= .b1 r∨m= .b2 r∨m= .b3 r) (hk:L[j]? =some ((Cs.out y m).res k b)) (k0:0≤k) (kc:k < c) (hnow:σ.now≤g) (hn:(bS σ.il).Nodup) (hwk:k∈bS σ.il ↔ (Cs.out y m).walk=true):Steps s q c d e g σ k b kk j u L (.out y m):=by
 have d0:decide (k≥0)=true:=decide_eq_true k0
 rcases hm with rfl|rfl|rfl
 · exact⟨⟨σ.now,σ.count,σ.holder,σ.il,σ.ml⟩,.out y (.b2 r),false,cr rfl rfl rfl (fun _=>⟨rfl,rfl⟩) nofun nofun trivial ⟨Int.le_refl _,hnow⟩ ⟨by omega,by omega⟩ rfl hn hwk,bI (BR hk) (by decide)⟩
 · rcases kh k σ.ml 0 with⟨_,h⟩|⟨i,v,h1,h⟩
   · have hd:=AY (s:=s) (q:=q) (d:=d) (e:=e) (g:=g) (now:=σ.now) (count:=σ.count) (holder:=σ.holder) (ins:=mp σ.il) (kk:=kk) d0 (fR kc) h hk
     rw [ug] at hd
     exact⟨⟨σ.now,σ.count,σ.holder,σ.il,σ.ml++ [(k,0)]⟩,.out y (.b3 r),false,cr rfl rfl rfl (fun _=>⟨rfl,rfl⟩) nofun nofun trivial ⟨Int.le_refl _,hnow⟩ ⟨by omega,by omega⟩ rfl hn hwk,bI hd (by decide)⟩
   · rw [Nat.zero_add] at h
     have hd:=BV (s:=s) (q:=q) (d:=d) (e:=e) (g:=g) (now:=σ.now) (count:=σ.count) (holder:=σ.holder) (ins:=mp σ.il) (kk:=kk) d0 (fR kc) h hk
     rw [yK _ _ _ _ _ h1] at hd
     exact⟨⟨σ.now,σ.count,σ.holder,σ.il,σ.ml.set i (k,0)⟩,.out y (.b3 r),false,cr rfl rfl rfl (fun _=>⟨rfl,rfl⟩) nofun nofun trivial ⟨Int.le_refl _,hnow⟩ ⟨by omega,by omega⟩ rfl hn hwk,bI hd (by decide)⟩
 · exact⟨⟨σ.now,σ.count,σ.holder,σ.il,σ.ml⟩,.out y (.b4 r),false,cr rfl rfl rfl (fun _=>⟨rfl,rfl⟩) nofun nofun trivial ⟨Int.le_refl _,hnow⟩ ⟨by omega,by omega⟩ rfl hn hwk,bI (A4 hk) (by decide)⟩
theorem Da {y r:Bool}{S S1:Heap} (hS:a8 30 S=true) (hS2:cY 29 (aY S)=false) (hS3:cY 29 (aY S1)=false) (hk:L[j]? =some ((Cs.out y (.b4 r)).res k b))
  (hm:cg Tryz.prog 30 30 29 200 [31] S (aB 30 30 (oI k y r)) 15 [.pointer (some ⟨30,0,none⟩),dc] (.bool true) S1 (KB k r (.string ({ data:= #[]})) (.bool false) (.slice none 0 0) (.int .i64 0) (.nilIface))):
  ab Tryz.prog 30 (S++ [(29,.sem (ad L))]) 400 (S1++ [(29,.sem (ad (L.set j ((Cs.inn r 0 [] .zero).res k b))))]) (.call 15 (.pointer (some ⟨b,0,some kk⟩):: [dc])) (.val (.bool true)):=
 bI (iL (I:=Unit) (Q:=fun _ _=>True) (hp:=fun _=>oI k y r) (K:=30) hk (fun _ _ h=>h) (by decide) hS hS2 hS3 (fun _ h e=>⟨(),e,trivial⟩) (fun _=>rfl) (fun _=>⟨_,_,rfl⟩) (by decide) (by decide) (nD fun _ _ h=>h) (fun w T h=>begun w T h)
  fun _=>⟨_,_,hm,fun _ _ _ _=>rfl⟩) (by decide:200≤400)
theorem J1 {y r:Bool} (hk:L[j]? =some ((Cs.out y (.b4 r)).res k b)) (k0:0≤k) (kc:k < c) (hnow:σ.now≤g) (hn:(bS σ.il).Nodup) (hwk:k∈bS σ.il ↔ (Cs.out y (.b4 r)).walk=true):Steps s q c d e g σ k b kk j u L (.out y (.b4 r)):=by
 have d0:decide (k≥0)=true:=decide_eq_true k0
 rcases kh k σ.ml 0 with⟨_,h⟩|⟨i,v,h1,h⟩
 · have hd:=Da (kk:=kk) rfl rfl rfl hk (JU (s:=s) (q:=q) (d:=d) (e:=e) (g:=g) (now:=σ.now) (count:=σ.count) (holder:=σ.holder) (ins:=mp σ.il) d0 (fR kc) h)
   rw [ug] at hd
   exact⟨⟨σ.now,σ.count,σ.holder,σ.il,σ.ml++ [(k,0)]⟩,.inn r 0 [] .zero,true,cr rfl rfl rfl nofun (fun _=>⟨rfl,rfl⟩) (fun _=> .inr (.inr rfl)) ⟨Nat.zero_le _,Nat.zero_le _,nofun,trivial⟩ ⟨Int.le_refl _,hnow⟩ ⟨by omega,by omega⟩ rfl hn hwk,hd⟩
 · rw [Nat.zero_add] at h
   have hd:=Da (kk:=kk) rfl rfl rfl hk (IY (s:=s) (q:=q) (d:=d) (e:=e) (g:=g) (now:=σ.now) (count:=σ.count) (holder:=σ.holder) (ins:=mp σ.il) d0 (fR kc) h)
   rw [yK _ _ _ _ _ h1] at hd
   exact⟨⟨σ.now,σ.count,σ.holder,σ.il,σ.ml.set i (k,0)⟩,.inn r 0 [] .zero,true,cr rfl rfl rfl nofun (fun _=>⟨rfl,rfl⟩) (fun _=> .inr (.inr rfl)) ⟨Nat.zero_le _,Nat.zero_le _,nofun,trivial⟩ ⟨Int.le_refl _,hnow⟩ ⟨by omega,by omega⟩ rfl hn hwk,hd⟩
theorem sD (y:Bool) (m:OM) (hm:m= .f1∨m= .f2∨m= .f3∨m= .f4) (hk:L[j]? =some ((Cs.out y m).res k b)) (k0:0≤k) (kc:k < c) (hnow:σ.now≤g) (hn:(bS σ.il).Nodup) (hwk:k∈bS σ.il ↔ (Cs.out y m).walk=true):Steps s q c d e g σ k b kk j u L (.out y m):=by
 have d0:decide (k≥0)=true:=decide_eq_true k0
 rcases hm with rfl|rfl|rfl|rfl
 · cases h:decide (σ.holder≥0) with
   |true=>exact⟨⟨σ.now,σ.count,σ.holder,σ.il,σ.ml⟩,.out y .zero,true,cr rfl rfl rfl nofun (fun _=>⟨rfl,rfl⟩) (fun _=> .inr (.inr rfl)) trivial ⟨Int.le_refl _,hnow⟩ ⟨by omega,by omega⟩ rfl hn hwk,bI (Bh d0 (fR kc) h hk) (by decide)⟩
   |false=>exact⟨⟨σ.now,σ.count,k,σ.il,σ.ml⟩,.out y .f2,false,cr rfl rfl rfl (fun _=>⟨rfl,rfl⟩) nofun nofun trivial ⟨Int.le_refl _,hnow⟩ ⟨by omega,by omega⟩ rfl hn hwk,bI (Bi d0 (fR kc) h hk) (by decide)⟩
 · exact⟨⟨σ.now,σ.count,σ.holder,σ.il,σ.ml⟩,.out y .f3,false,cr rfl rfl rfl (fun _=>⟨rfl,rfl⟩) nofun nofun trivial ⟨Int.le_refl _,hnow⟩ ⟨by omega,by omega⟩ rfl hn hwk,bI (Aw hk) (by decide)⟩
 · exact⟨⟨σ.now,σ.count,σ.holder,σ.il,σ.ml⟩,.out y .f4,false,cr rfl rfl rfl (fun _=>⟨rfl,rfl⟩) nofun nofun trivial ⟨Int.le_refl _,hnow⟩ ⟨by omega,by omega⟩ rfl hn hwk,bI (A6 hk) (by decide)⟩
 · cases h:(σ.holder !=k) with
   |true=>exact⟨⟨σ.now,σ.count,σ.holder,σ.il,σ.ml⟩,.out y .zero,true,cr rfl rfl rfl nofun (fun _=>⟨rfl,rfl⟩) (fun _=> .inr (.inr rfl)) trivial ⟨Int.le_refl _,hnow⟩ ⟨by omega,by omega⟩ rfl hn hwk,bI (Au d0 (fR kc) h hk) (by decide)⟩
   |false=>exact⟨⟨σ.now,σ.count, -0-1,σ.il,σ.ml⟩,.out y .zero,true,cr rfl rfl rfl nofun (fun _=>⟨rfl,rfl⟩) (fun _=> .inr (.inr rfl)) trivial ⟨Int.le_refl _,hnow⟩ ⟨by omega,by omega⟩ rfl hn hwk,bI (BW d0 (fR kc) h hk) (by decide)⟩
theorem Lb {y:Bool}{nb:Nat}{ws:List Wt} (hk:L[j]? =some ((Cs.inn y nb ws .a1).res k b)) (k0:0≤k) (kc:k < c) (hnow:σ.now≤g) (hn:(bS σ.il).Nodup) (hwk:k∈bS σ.il ↔ (Cs.inn y nb ws .a1).walk=true):Steps s q c d e g σ k b kk j u L (.inn y nb ws .a1):=by
 have d0:decide (k≥0)=true:=decide_eq_true k0
 rcases kh k σ.ml 0 with⟨_,h⟩|⟨i,v,h1,h⟩
 · exact⟨⟨σ.now,σ.count,σ.holder,σ.il,σ.ml⟩,.out y .zero,true,cr rfl rfl rfl nofun (fun _=>⟨rfl,rfl⟩) (fun _=> .inr (.inr rfl)) trivial ⟨Int.le_refl _,hnow⟩ ⟨by omega,by omega⟩ rfl hn hwk,bI (Ay d0 (fR kc) h hk) (by decide)⟩
 · rw [Nat.zero_add] at h
   have hd:=Bl (s:=s) (q:=q) (d:=d) (e:=e) (g:=g) (now:=σ.now) (count:=σ.count) (holder:=σ.holder) (ins:=mp σ.il) (kk:=kk) d0 (fR kc) h hk
   rw [ov] at hd
   exact⟨⟨σ.now,σ.count,σ.holder,σ.il,σ.ml.eraseIdx i⟩,.out y .zero,true,cr rfl rfl rfl nofun (fun _=>⟨rfl,rfl⟩) (fun _=> .inr (.inr rfl)) trivial ⟨Int.le_refl _,hnow⟩ ⟨by omega,by omega⟩ rfl hn hwk,bI hd (by decide)⟩
structure vw (c g:Int) (σ:eQ) (k:Int) (u:Nat) (nb:Nat) (ws:List Wt):Prop where
 k0:0≤k
 kc:k < c
 now:0≤σ.now∧σ.now≤g
 top:g < 9223372036854775808
 fK:0≤σ.count∧σ.count < 4000000000
 nodup:(bS σ.il).Nodup
 nb:nb≤u
 len:ws.length≤u
 sm:fa ws
 u:u < 1000
theorem nd (y:Bool) {nb:Nat}{ws:List Wt} (m:IM) {key:ByteArray}{x:Int} (hm:m= .g1 key∨m= .g2 key∨m= .g3 key x∨m= .g4 key∨m= .g5 key∨m= .g6 key) (hk:L[j]? =some ((Cs.inn y nb ws m).res k b)) (hp:vw c g σ k u nb ws)
  (hw:m.wf σ.now) (hwk:k∈bS σ.il ↔ m.walk=true):Steps s q c d e g σ k b kk j u L (.inn y nb ws m):=by
 obtain⟨k0,kc,⟨n0,n1⟩,top,⟨t0,t1⟩,hn,p1,p2,p3,p4⟩:=hp
 have d0:decide (k≥0)=true:=decide_eq_true k0
 have hct:IntKind.i64.wrap (σ.count+1)=σ.count+1:=wrap64 (by omega) (by omega)
 have cnt1:σ.count≤σ.count+1∧σ.count+1≤σ.count+1:=⟨by omega,by omega⟩
 rcases hm with rfl|rfl|rfl|rfl|rfl|rfl
 · exact⟨⟨σ.now,σ.count,σ.holder,σ.il,σ.ml⟩,.inn y nb ws (.g2 key),false,cr rfl rfl rfl (fun _=>⟨rfl,rfl⟩) nofun nofun ⟨p1,p2,p3,hw⟩ ⟨Int.le_refl _,n1⟩ ⟨by omega,by omega⟩ rfl hn hwk,
    bI (B9 (decide_eq_true hw.1) (by rw [decide_eq_true hw.2];rfl) hk) (by decide)⟩
 · cases h:(σ.now==g) with
   |true=>
    have hd:=AF (s:=s) (q:=q) (c:=c) (d:=d) (e:=e) (g:=g) (now:=σ.now) (count:=σ.count) (holder:=σ.holder) (ins:=mp σ.il) (mks:=mp σ.ml) (kk:=kk) h hk
    rw [hct] at hd
    exact⟨⟨σ.now,σ.count+1,σ.holder,σ.il,σ.ml⟩,.inn y nb ws .fault,true,cr rfl rfl rfl nofun (fun _=>⟨rfl,rfl⟩) (fun _=> .inl rfl) ⟨p1,p2,p3,trivial⟩ ⟨Int.le_refl _,n1⟩ cnt1 rfl hn hwk,bI hd (by decide)⟩
   |false=>
    have hd:=BT (s:=s) (q:=q) (c:=c) (d:=d) (e:=e) (g:=g) (now:=σ.now) (count:=σ.count) (holder:=σ.holder) (ins:=mp σ.il) (mks:=mp σ.ml) (kk:=kk) h hk
    have hne:σ.now≠g:=fun q=>by rw [q] at h;simp at h
    rw [hct,wrap64 (n:=σ.now+1) (by omega) (by omega)] at hd
    exact⟨⟨σ.now+1,σ.count+1,σ.holder,σ.il,σ.ml⟩,.inn y nb ws (.g3 key (σ.now+1)),false,cr rfl rfl rfl (fun _=>⟨rfl,rfl⟩) nofun nofun ⟨p1,p2,p3,hw,by omega,by omega⟩ ⟨by omega,by omega⟩ cnt1 rfl hn hwk,bI hd (by decide)⟩
 · obtain⟨w1,w2,w3⟩:=hw
   rcases kh k σ.il 0 with⟨h0,h⟩|⟨i,v,h1,h⟩
   · have hd:=BP (s:=s) (q:=q) (d:=d) (e:=e) (g:=g) (count:=σ.count) (holder:=σ.holder) (mks:=mp σ.ml) (kk:=kk) d0 (fR kc) (decide_eq_false (by omega:¬x < 1)) (decide_eq_false (by omega:¬x > σ.now)) h hk
     rw [hct,ug] at hd
     exact⟨⟨σ.now,σ.count+1,σ.holder,σ.il++ [(k,x)],σ.ml⟩,.inn y nb ws (.g4 key),false,Dw rfl rfl rfl (fun _=>⟨rfl,rfl⟩) nofun nofun ⟨p1,p2,p3,w1⟩ n1 cnt1 rfl hn h0,bI hd (by decide)⟩
   · have:=hwk.1 (List.mem_map.2 ⟨(k,v),List.mem_of_getElem? h1,rfl⟩)
     cases this
 · have hd:=AD (s:=s) (q:=q) (c:=c) (d:=d) (e:=e) (g:=g) (now:=σ.now) (count:=σ.count) (holder:=σ.holder) (ins:=mp σ.il) (mks:=mp σ.ml) (kk:=kk) (sn q) hk
   rw [hct] at hd
   exact⟨⟨σ.now,σ.count+1,σ.holder,σ.il,σ.ml⟩,.inn y nb ws (.g5 key),false,cr rfl rfl rfl (fun _=>⟨rfl,rfl⟩) nofun nofun ⟨p1,p2,p3,hw⟩ ⟨Int.le_refl _,n1⟩ cnt1 rfl hn hwk,bI hd (by decide)⟩
 · have hd:=AZ (s:=s) (q:=q) (c:=c) (d:=d) (e:=e) (g:=g) (now:=σ.now) (count:=σ.count) (holder:=σ.holder) (ins:=mp σ.il) (mks:=mp σ.ml) (kk:=kk) (sn s) (decide_eq_true (Ad key)) hk
   rw [hct] at hd
   exact⟨⟨σ.now,σ.count+1,σ.holder,σ.il,σ.ml⟩,.inn y nb ws (.g6 key),false,cr rfl rfl rfl (fun _=>⟨rfl,rfl⟩) nofun nofun ⟨p1,p2,p3,hw⟩ ⟨Int.le_refl _,n1⟩ cnt1 rfl hn hwk,bI hd (by decide)⟩
 · rcases kh k σ.il 0 with⟨h0,h⟩|⟨i,v,h1,h⟩
   · exact absurd (hwk.2 rfl) h0
   · rw [Nat.zero_add] at h
     have hd:=B7 (s:=s) (q:=q) (d:=d) (e:=e) (g:=g) (now:=σ.now) (count:=σ.count) (holder:=σ.holder) (mks:=mp σ.ml) (kk:=kk) d0 (fR kc) h hk
     rw [hct,ov] at hd
     exact⟨⟨σ.now,σ.count+1,σ.holder,σ.il.eraseIdx i,σ.ml⟩,.inn y nb ws .zero,true,tV rfl rfl rfl nofun (fun _=>⟨rfl,rfl⟩) (fun _=> .inl rfl) ⟨p1,p2,p3,trivial⟩ n1 cnt1 rfl hn h1,bI hd (by decide)⟩
theorem np (y:Bool) {nb:Nat}{ws:List Wt} (m:IM) {lo hi:ByteArray}{un rv:Bool}{li x:Int} (hm:m= .r1 lo hi un li rv∨m= .r2 lo hi un li rv∨m= .r3 lo hi un li rv x∨m= .r4 lo hi un li rv∨m= .r5 lo hi un li rv∨m= .r6 lo hi un li rv) (hk:L[j]? =some ((Cs.inn y nb ws m).res k b)) (hp:vw c g σ k u nb ws)
  (hw:m.wf σ.now) (hwk:k∈bS σ.il ↔ m.walk=true):Steps s q c d e g σ k b kk j u L (.inn y nb ws m):=by
 obtain⟨k0,kc,⟨n0,n1⟩,top,⟨t0,t1⟩,hn,p1,p2,p3,p4⟩:=hp
 have d0:decide (k≥0)=true:=decide_eq_true k0
 have hct:IntKind.i64.wrap (σ.count+1)=σ.count+1:=wrap64 (by omega) (by omega)
 have cnt1:σ.count≤σ.count+1∧σ.count+1≤σ.count+1:=⟨by omega,by omega⟩
 rcases hm with rfl|rfl|rfl|rfl|rfl|rfl
 · exact⟨⟨σ.now,σ.count,σ.holder,σ.il,σ.ml⟩,.inn y nb ws (.r2 lo hi un li rv),false,cr rfl rfl rfl (fun _=>⟨rfl,rfl⟩) nofun nofun ⟨p1,p2,p3,hw⟩ ⟨Int.le_refl _,n1⟩ ⟨by omega,by omega⟩ rfl hn hwk,bI (B8 hk) (by decide)⟩
 · obtain⟨w1,w2,w3⟩:=hw
   have e1:decide ((↑lo.data.toList.length:Int) > (16:Int))=false:=decide_eq_false (by omega)
   have e2:decide ((↑hi.data.toList.length:Int) > (16:Int))=false:=decide_eq_false (by omega)
   cases h:(σ.now==g) with
   |true=>
    have pp:kY k g u σ ⟨σ.now,σ.count+1,σ.holder,σ.il,σ.ml⟩ (.inn y nb ws (.r2 lo hi un li rv)) (.inn y nb ws .fault) true:=cr rfl rfl rfl nofun (fun _=>⟨rfl,rfl⟩) (fun _=> .inr (.inl rfl)) ⟨p1,p2,p3,trivial⟩ ⟨Int.le_refl _,n1⟩ cnt1 rfl hn hwk
    cases un with
    |true=>
     have w3':cH hi { data:= #[]}=true:=w3
     have hd:=A0 (s:=s) (q:=q) (c:=c) (d:=d) (e:=e) (g:=g) (now:=σ.now) (count:=σ.count) (holder:=σ.holder) (ins:=mp σ.il) (mks:=mp σ.ml) (kk:=kk) e1 e2 rfl (by rw [w3'];rfl) h hk
     rw [hct] at hd
     exact⟨_,_,true,pp,bI hd (by decide)⟩
    |false=>
     have w3':de lo hi < 0:=w3
     have hd:=Aq (s:=s) (q:=q) (c:=c) (d:=d) (e:=e) (g:=g) (now:=σ.now) (count:=σ.count) (holder:=σ.holder) (ins:=mp σ.il) (mks:=mp σ.ml) (kk:=kk) e1 e2 rfl (Nat.ble_eq_true_of_le (by omega)) (fR w3') h hk
     rw [hct] at hd
     exact⟨_,_,true,pp,bI hd (by decide)⟩
   |false=>
    have hne:σ.now≠g:=fun q=>by rw [q] at h;simp at h
    have hnw:IntKind.i64.wrap (σ.now+1)=σ.now+1:=wrap64 (by omega) (by omega)
    have pp:kY k g u σ ⟨σ.now+1,σ.count+1,σ.holder,σ.il,σ.ml⟩ (.inn y nb ws (.r2 lo hi un li rv)) (.inn y nb ws (.r3 lo hi un li rv (σ.now+1))) false:=cr rfl rfl rfl (fun _=>⟨rfl,rfl⟩) nofun nofun ⟨p1,p2,p3,⟨w1,w2,w3⟩,by omega,by omega⟩ ⟨by omega,by omega⟩ cnt1 rfl hn hwk
    cases un with
    |true=>
     have w3':cH hi { data:= #[]}=true:=w3
     have hd:=BG (s:=s) (q:=q) (c:=c) (d:=d) (e:=e) (g:=g) (now:=σ.now) (count:=σ.count) (holder:=σ.holder) (ins:=mp σ.il) (mks:=mp σ.ml) (kk:=kk) e1 e2 rfl (by rw [w3'];rfl) h hk
     rw [hct,hnw] at hd
     exact⟨_,_,false,pp,bI hd (by decide)⟩
    |false=>
     have w3':de lo hi < 0:=w3
     have hd:=Az (s:=s) (q:=q) (c:=c) (d:=d) (e:=e) (g:=g) (now:=σ.now) (count:=σ.count) (holder:=σ.holder) (ins:=mp σ.il) (mks:=mp σ.ml) (kk:=kk) e1 e2 rfl (Nat.ble_eq_true_of_le (by omega)) (fR w3') h hk
     rw [hct,hnw] at hd
     exact⟨_,_,false,pp,bI hd (by decide)⟩
 · obtain⟨w1,w2,w3⟩:=hw
   rcases kh k σ.il 0 with⟨h0,h⟩|⟨i,v,h1,h⟩
   · have hd:=BI (s:=s) (q:=q) (d:=d) (e:=e) (g:=g) (count:=σ.count) (holder:=σ.holder) (mks:=mp σ.ml) (kk:=kk) d0 (fR kc) (decide_eq_false (by omega:¬x < 1)) (decide_eq_false (by omega:¬x > σ.now)) h hk
     rw [hct,ug] at hd
     exact⟨⟨σ.now,σ.count+1,σ.holder,σ.il++ [(k,x)],σ.ml⟩,.inn y nb ws (.r4 lo hi un li rv),false,Dw rfl rfl rfl (fun _=>⟨rfl,rfl⟩) nofun nofun ⟨p1,p2,p3,w1⟩ n1 cnt1 rfl hn h0,bI hd (by decide)⟩
   · have:=hwk.1 (List.mem_map.2 ⟨(k,v),List.mem_of_getElem? h1,rfl⟩)
     cases this
 · have hd:=A5 (s:=s) (q:=q) (c:=c) (d:=d) (e:=e) (g:=g) (now:=σ.now) (count:=σ.count) (holder:=σ.holder) (ins:=mp σ.il) (mks:=mp σ.ml) (kk:=kk) (sn q) hk
   rw [hct] at hd
   exact⟨⟨σ.now,σ.count+1,σ.holder,σ.il,σ.ml⟩,.inn y nb ws (.r5 lo hi un li rv),false,cr rfl rfl rfl (fun _=>⟨rfl,rfl⟩) nofun nofun ⟨p1,p2,p3,hw⟩ ⟨Int.le_refl _,n1⟩ cnt1 rfl hn hwk,bI hd (by decide)⟩
 · have hd:=Be (s:=s) (q:=q) (c:=c) (d:=d) (e:=e) (g:=g) (now:=σ.now) (count:=σ.count) (holder:=σ.holder) (ins:=mp σ.il) (mks:=mp σ.ml) (kk:=kk) (sn s) (decide_eq_true (Ad lo)) hk
   rw [hct] at hd
   exact⟨⟨σ.now,σ.count+1,σ.holder,σ.il,σ.ml⟩,.inn y nb ws (.r6 lo hi un li rv),false,cr rfl rfl rfl (fun _=>⟨rfl,rfl⟩) nofun nofun ⟨p1,p2,p3,hw⟩ ⟨Int.le_refl _,n1⟩ cnt1 rfl hn hwk,bI hd (by decide)⟩
 · obtain⟨w1,w2,w3⟩:=hw
   rcases kh k σ.il 0 with⟨h0,h⟩|⟨i,v,h1,h⟩
   · exact absurd (hwk.2 rfl) h0
   · rw [Nat.zero_add] at h
     rcases R6 (s:=s) (q:=q) (d:=d) (e:=e) (g:=g) (now:=σ.now) (count:=σ.count) (holder:=σ.holder) (mks:=mp σ.ml) (kk:=kk) d0 (fR kc) h (Nat.ble_eq_true_of_le (by omega)) p3 (by omega) hk with hd|⟨os2,hl,hd⟩
     · rw [hct,ov] at hd
       exact⟨⟨σ.now,σ.count+1,σ.holder,σ.il.eraseIdx i,σ.ml⟩,.inn y nb ws .zero,true,tV rfl rfl rfl nofun (fun _=>⟨rfl,rfl⟩) (fun _=> .inr (.inl rfl)) ⟨p1,p2,p3,trivial⟩ n1 cnt1 rfl hn h1,hd⟩
     · rw [hct,ov] at hd
       exact⟨⟨σ.now,σ.count+1,σ.holder,σ.il.eraseIdx i,σ.ml⟩,.inn y nb ws (.rows os2),true,tV rfl rfl rfl nofun (fun _=>⟨rfl,rfl⟩) (fun _=> .inr (.inl rfl)) ⟨p1,p2,p3,(by show os2.length < 1100;omega)⟩ n1 cnt1 rfl hn h1,hd⟩
theorem Iv {m:Cs} (hk:L[j]? =some (m.res k b)) (k0:0≤k) (kc:k < c) (hnow:0≤σ.now∧σ.now≤g) (top:g < 9223372036854775808) (hcnt:0≤σ.count∧σ.count < 4000000000) (hn:(bS σ.il).Nodup) (hwk:k∈bS σ.il ↔ m.walk=true)
  (hp:m.bt=true) (hw:m.wf σ.now u) (hu:u < 1000):Steps s q c d e g σ k b kk j u L m:=by
 cases m with
 |out y m=>
  cases m with
  |idle=>cases hp
  |zero=>cases hp
  |b1 r=>exact vT (r:=r) y _ (.inl rfl) hk k0 kc hnow.2 hn hwk
  |b2 r=>exact vT (r:=r) y _ (.inr (.inl rfl)) hk k0 kc hnow.2 hn hwk
  |b3 r=>exact vT (r:=r) y _ (.inr (.inr rfl)) hk k0 kc hnow.2 hn hwk
  |b4 r=>exact J1 hk k0 kc hnow.2 hn hwk
  |f1=>exact sD y _ (.inl rfl) hk k0 kc hnow.2 hn hwk
  |f2=>exact sD y _ (.inr (.inl rfl)) hk k0 kc hnow.2 hn hwk
  |f3=>exact sD y _ (.inr (.inr (.inl rfl))) hk k0 kc hnow.2 hn hwk
  |f4=>exact sD y _ (.inr (.inr (.inr rfl))) hk k0 kc hnow.2 hn hwk
 |inn y nb ws m=>
  have pre:vw c g σ k u nb ws:=⟨k0,kc,hnow,top,hcnt,hn,hw.1,hw.2.1,hw.2.2.1,hu⟩
  have hw':=hw.2.2.2
  cases m with
  |idle=>cases hp
  |zero=>cases hp
  |fault=>cases hp
  |found v th=>cases hp
  |rows os=>cases hp
  |a1=>exact Lb hk k0 kc hnow.2 hn hwk
  |g1 key=>exact nd (key:=key) (x:=0) y _ (.inl rfl) hk pre hw' hwk
  |g2 key=>exact nd (key:=key) (x:=0) y _ (.inr (.inl rfl)) hk pre hw' hwk
  |g3 key x=>exact nd (key:=key) (x:=x) y _ (.inr (.inr (.inl rfl))) hk pre hw' hwk
  |g4 key=>exact nd (key:=key) (x:=0) y _ (.inr (.inr (.inr (.inl rfl)))) hk pre hw' hwk
  |g5 key=>exact nd (key:=key) (x:=0) y _ (.inr (.inr (.inr (.inr (.inl rfl))))) hk pre hw' hwk
  |g6 key=>exact nd (key:=key) (x:=0) y _ (.inr (.inr (.inr (.inr (.inr rfl))))) hk pre hw' hwk
  |r1 lo hi un li rv=>exact np (lo:=lo) (hi:=hi) (un:=un) (li:=li) (rv:=rv) (x:=0) y _ (.inl rfl) hk pre hw' hwk
  |r2 lo hi un li rv=>exact np (lo:=lo) (hi:=hi) (un:=un) (li:=li) (rv:=rv) (x:=0) y _ (.inr (.inl rfl)) hk pre hw' hwk
  |r3 lo hi un li rv x=>exact np (lo:=lo) (hi:=hi) (un:=un) (li:=li) (rv:=rv) (x:=x) y _ (.inr (.inr (.inl rfl))) hk pre hw' hwk
  |r4 lo hi un li rv=>exact np (lo:=lo) (hi:=hi) (un:=un) (li:=li) (rv:=rv) (x:=0) y _ (.inr (.inr (.inr (.inl rfl)))) hk pre hw' hwk
  |r5 lo hi un li rv=>exact np (lo:=lo) (hi:=hi) (un:=un) (li:=li) (rv:=rv) (x:=0) y _ (.inr (.inr (.inr (.inr (.inl rfl))))) hk pre hw' hwk
  |r6 lo hi un li rv=>exact np (lo:=lo) (hi:=hi) (un:=un) (li:=li) (rv:=rv) (x:=0) y _ (.inr (.inr (.inr (.inr (.inr rfl))))) hk pre hw' hwk
end
end
section
open Go.Sx
section
variable {k:Int}{b kk j:Nat}{L:List aG}
theorem JO {x:aG} (hk:L[j]? =some x):L.set j x=L:=by
 apply List.ext_getElem?
 intro n
 rw [List.getElem?_set]
 split
 · rename_i q;subst q
   split
   · exact hk.symm
   · rename_i q;rw [List.getElem?_eq_none (by omega)] at hk;cases hk
 · rfl
theorem aq {c1:Nat}{x:aG}{f:FuncId}{xs:List Value}{v:Value} (hk:L[j]? =some x) (h:ab Tryz.prog 30 (([]:Heap)++ [(29,.sem (ad L))]) c1 (([]:Heap)++ [(29,.sem (ad (L.set j x)))]) (.call f xs) (.val v)):
  ab Tryz.prog 30 (([]:Heap)++ [(29,.sem (ad L))]) c1 (([]:Heap)++ [(29,.sem (ad L))]) (.call f xs) (.val v):=by
 rw [JO hk] at h;exact h
theorem wk {L:List aG}{c0 hi:Nat} (h:30≤c0):xW Tryz.prog c0 hi [(29,.sem (ad L))] [(29,.sem (ad L))]:=by
 refine ko ?_ fun n x e=> ?_
 · simp only [a8,Bool.and_true];exact Nat.ble_eq_true_of_le (by omega)
 · rw [aQ] at e
   split at e
   · cases e;rfl
   · simp [Heap.get] at e
theorem aO {L L':List aG}{c1 c:Nat}{f:FuncId}{xs:List Value}{v:Value} (h:ab Tryz.prog 30 (([]:Heap)++ [(29,.sem (ad L))]) c1 (([]:Heap)++ [(29,.sem (ad L'))]) (.call f xs) (.val v)) (hc:30≤c)
  (ha:cL (cD 9 30 c1) xs=true) (hv:cD 9 30 c1 v=true):ab Tryz.prog c [(29,.sem (ad L))] c [(29,.sem (ad L'))] (.call f xs) (.val v):=
 se h hc (Nat.le_refl _) (wk (Nat.le_refl _)) (wk (Nat.le_refl _)) ha hv
theorem df {c:Nat}{m:Cs} (hk:L[j]? =some (m.res k b)) (hc:30≤c):ab Tryz.prog c [(29,.sem (ad L))] c [(29,.sem (ad L))] (.call 40 [.pointer (some ⟨b,0,some kk⟩)]) (.val (.bool m.bt)):=by
 cases m with
 |out y m=>
  cases m with
  |idle=>exact aO (aq hk (AU hk)) hc rfl rfl
  |zero=>exact aO (aq hk (Al hk)) hc rfl rfl
  |b1 r=>exact aO (aq hk (Bb hk)) hc rfl rfl
  |b2 r=>exact aO (aq hk (Bg hk)) hc rfl rfl
  |b3 r=>exact aO (aq hk (Bs hk)) hc rfl rfl
  |b4 r=>exact aO (aq hk (BQ hk)) hc rfl rfl
  |f1=>exact aO (aq hk (AR hk)) hc rfl rfl
  |f2=>exact aO (aq hk (AK hk)) hc rfl rfl
  |f3=>exact aO (aq hk (AL hk)) hc rfl rfl
  |f4=>exact aO (aq hk (BD hk)) hc rfl rfl
 |inn y nb ws m=>
  cases m with
  |idle=>exact aO (aq hk (BM hk)) hc rfl rfl
  |zero=>exact aO (aq hk (Bz hk)) hc rfl rfl
  |fault=>exact aO (aq hk (Bp hk)) hc rfl rfl
  |found v th=>exact aO (aq hk (Cf hk)) hc rfl rfl
  |rows os=>exact aO (aq hk (A1 hk)) hc rfl rfl
  |a1=>exact aO (aq hk (Cd hk)) hc rfl rfl
  |g1 key=>exact aO (aq hk (Ca hk)) hc rfl rfl
  |g2 key=>exact aO (aq hk (BH hk)) hc rfl rfl
  |g3 key x=>exact aO (aq hk (B0 hk)) hc rfl rfl
  |g4 key=>exact aO (aq hk (AG hk)) hc rfl rfl
  |g5 key=>exact aO (aq hk (BO hk)) hc rfl rfl
  |g6 key=>exact aO (aq hk (AH hk)) hc rfl rfl
  |r1 lo hi un li rv=>exact aO (aq hk (Ar hk)) hc rfl rfl
  |r2 lo hi un li rv=>exact aO (aq hk (BZ hk)) hc rfl rfl
  |r3 lo hi un li rv x=>exact aO (aq hk (A3 hk)) hc rfl rfl
  |r4 lo hi un li rv=>exact aO (aq hk (Bm hk)) hc rfl rfl
  |r5 lo hi un li rv=>exact aO (aq hk (Bw hk)) hc rfl rfl
  |r6 lo hi un li rv=>exact aO (aq hk (BF hk)) hc rfl rfl
theorem gG {c:Nat}{m:Cs} (hk:L[j]? =some (m.res k b)) (hc:30≤c):ab Tryz.prog c [(29,.sem (ad L))] c [(29,.sem (ad L))] (.call 19 [.pointer (some ⟨b,0,some kk⟩)]) (.val (.bool m.inside)):=by
 cases m with
 |out y m=>
  cases m with
  |idle=>exact aO (aq hk (BN hk)) hc rfl rfl
  |zero=>exact aO (aq hk (AM hk)) hc rfl rfl
  |b1 r=>exact aO (aq hk (Ba hk)) hc rfl rfl
  |b2 r=>exact aO (aq hk (B2 hk)) hc rfl rfl
  |b3 r=>exact aO (aq hk (A2 hk)) hc rfl rfl
  |b4 r=>exact aO (aq hk (BA hk)) hc rfl rfl
  |f1=>exact aO (aq hk (AV hk)) hc rfl rfl
  |f2=>exact aO (aq hk (Bo hk)) hc rfl rfl
  |f3=>exact aO (aq hk (Bc hk)) hc rfl rfl
  |f4=>exact aO (aq hk (Bu hk)) hc rfl rfl
 |inn y nb ws m=>
  cases m with
  |idle=>exact aO (aq hk (AP hk)) hc rfl rfl
  |zero=>exact aO (aq hk (Bx hk)) hc rfl rfl
  |fault=>exact aO (aq hk (AO hk)) hc rfl rfl
  |found v th=>exact aO (aq hk (Ap hk)) hc rfl rfl
  |rows os=>exact aO (aq hk (Bd hk)) hc rfl rfl
  |a1=>exact aO (aq hk (An hk)) hc rfl rfl
  |g1 key=>exact aO (aq hk (BK hk)) hc rfl rfl
  |g2 key=>exact aO (aq hk (Br hk)) hc rfl rfl
  |g3 key x=>exact aO (aq hk (AX hk)) hc rfl rfl
  |g4 key=>exact aO (aq hk (B5 hk)) hc rfl rfl
  |g5 key=>exact aO (aq hk (Bj hk)) hc rfl rfl
  |g6 key=>exact aO (aq hk (B1 hk)) hc rfl rfl
  |r1 lo hi un li rv=>exact aO (aq hk (Ce hk)) hc rfl rfl
  |r2 lo hi un li rv=>exact aO (aq hk (Bq hk)) hc rfl rfl
  |r3 lo hi un li rv x=>exact aO (aq hk (BE hk)) hc rfl rfl
  |r4 lo hi un li rv=>exact aO (aq hk (B4 hk)) hc rfl rfl
  |r5 lo hi un li rv=>exact aO (aq hk (Bt hk)) hc rfl rfl
  |r6 lo hi un li rv=>exact aO (aq hk (AE hk)) hc rfl rfl
def Cs.told:Cs→Cs
 | .out y _=> .out y .idle
 | .inn y nb ws _=> .inn y nb ws .idle
def Cs.gD:Cs→Bool
 | .inn _ _ _ .fault=>true
 |_=>false
theorem zC:∀ {os:List Rt},(aa os).length=os.length*2
 | []=>rfl
 |o::os=>by simp [aa,zC (os:=os)];omega
theorem Cw:∀os:List Rt,(aa os).all ed=true
 | []=>rfl
 |_::os=>by simp only [aa,List.all_cons,Cw os];rfl
abbrev La:List Nat:= [0,1,2,3,4,5,6,7,8,9,10,11,12,13,14,15,16,17,18,19,20,21,22,23,24,25,26,27,28,29]
end
end
section
open Go.Sx
def yR (kd:Int) (rd:Bool) (key val lo hi:ByteArray) (un:Bool) (li:Int) (rv:Bool):Value:= .agg ⟨[.int .i64 kd,.bool rd,.string key,.string val,.string lo,.string hi,.bool un,.int .i64 li,.bool rv]⟩
structure CE (kd:Int) (rd:Bool) (now:Int) (u:Nat) (m m':Cs):Prop where
 ins:m'.inside=m.inside
 goal1:kd=1→m'.goal=rd
 goal:kd≠1→m'.goal=m.goal
 kind:(m'.dB=true∧m'.bt=false∧(kd=3∨kd=4))∨(m'.isDone=true∧m'.gD=false∧m'.bt=false∧kd=2∧∀y nb ws os,m'≠ .inn y nb ws (.rows os))∨(m'.bt=true∧m'.act=kd∧kd≠3∧kd≠4)
 walk:m'.walk=false
 wf:m'.wf now (u+2)
 bN:m'.bN≤6
def ep (kd:Int) (key val lo hi:ByteArray) (un:Bool) (m:Cs):Int:=bf kd key val lo hi un m.inside (m.inside && m.flag)
theorem lX {R R':aG} (hR:∀w S,R.holds w S→R'.holds w S) {w:World}:∀ {L:List aG}{j:Nat}{S:Nat→Prop},(ad (L.set j R)).holds w S→(ad (L.set j R')).holds w S
 | [],_,_,h=>h
 |_::_,0,_,⟨S1,S2,h1,h2,h3,h4,h5⟩=>⟨S1,S2,h1,h2,h3,hR _ _ h4,h5⟩
 |_::_,j+1,_,⟨S1,S2,h1,h2,h3,h4,h5⟩=>⟨S1,S2,h1,h2,h3,h4,lX hR (j:=j) h5⟩
theorem wM {R R':aG} (hR:∀w S,R.holds w S→R'.holds w S) {L:List aG}{j c c1:Nat}{h0:Heap}{f:FuncId}{xs:List Value}{v:Value} (h:ab Tryz.prog c h0 c1 (([]:Heap)++ [(29,.sem (ad (L.set j R)))]) (.call f xs) (.val v)):
  ab Tryz.prog c h0 c1 (([]:Heap)++ [(29,.sem (ad (L.set j R')))]) (.call f xs) (.val v):=
 ⟨h.1,fun r ow w hs hf us hu=>Calls.mono (h.2 r ow w hs hf us hu) fun _ _ ⟨r',ow',u,he,hp,hv⟩=>⟨r',ow',u,he,⟨hp.le,⟨fun n x e=>by
   change Heap.get [(29,_)] n=some x at e
   rw [aQ] at e
   split at e
   · rename_i q;subst q;cases e
     exact lX hR (hp.sat.chunk 29 _ rfl)
   · simp [Heap.get] at e,hp.sat.bound,hp.sat.known⟩,hp.frame,hp.new,hp.mono,hp.own⟩,hv⟩⟩
theorem Df {k:Int}{y:Bool}{b nb:Nat}{ws:List Wt}{lo hi:ByteArray}{un rv:Bool}{li:Int}:∀w S,(aL b (nb+1) ws fun nk ns Wr=>jf k nk (ns+(0+1)) Wr y lo hi un li rv).holds w S→(aL b (nb+2) ws fun nk ns Wr=>jf k nk ns Wr y lo hi un li rv).holds w S:=by
 rintro w S ⟨r,ow,h,⟨nk,ns,wv,h1,h2,h3,h4,rfl⟩,hb,hs,hT⟩
 exact⟨r,ow,_,⟨nk,ns+1,wv,by omega,by omega,h3,h4,rfl⟩,hb,hs,hT⟩
section
variable {k now:Int}{b kk j u c:Nat}{L:List aG}{m:Cs}{kd:Int}{rd:Bool}{key val lo hi:ByteArray}{un:Bool}{li:Int}{rv:Bool}
def EP (k now:Int) (b kk j u c:Nat) (L:List aG) (m:Cs) (kd:Int) (rd:Bool) (key val lo hi:ByteArray) (un:Bool) (li:Int) (rv:Bool):Prop:=
 (ep kd key val lo hi un m≠0∧ab Tryz.prog c [(29,.sem (ad L))] c [(29,.sem (ad L))] (.call 81 [.pointer (some ⟨b,0,some kk⟩),yR kd rd key val lo hi un li rv]) (.val (.iface 72 (.int .i64 (ep kd key val lo hi un m)))))∨
 (ep kd key val lo hi un m=0∧∃m',CE kd rd now u m m'∧ab Tryz.prog c [(29,.sem (ad L))] c [(29,.sem (ad (L.set j (m'.res k b))))] (.call 81 [.pointer (some ⟨b,0,some kk⟩),yR kd rd key val lo hi un li rv]) (.val .nilIface))
theorem eG {code:Int} (hc:30≤c) (hmay:ep kd key val lo hi un m=code) (hne:code≠0) (hd:ab Tryz.prog 30 [(29,.sem (ad L))] 31 [(29,.sem (ad L))] (.call 81 [.pointer (some ⟨b,0,some kk⟩),yR kd rd key val lo hi un li rv]) (.val (.iface 72 (.int .i64 code)))):EP k now b kk j u c L m kd rd key val lo hi un li rv:=
 .inl ⟨by rw [hmay];exact hne,by rw [hmay];exact aO hd hc rfl rfl⟩
theorem jt (hc:30≤c) (m':Cs) (hmay:ep kd key val lo hi un m=0) (hp:CE kd rd now u m m') (hd:ab Tryz.prog 30 [(29,.sem (ad L))] 31 [(29,.sem (ad (L.set j (m'.res k b))))] (.call 81 [.pointer (some ⟨b,0,some kk⟩),yR kd rd key val lo hi un li rv]) (.val .nilIface)):EP k now b kk j u c L m kd rd key val lo hi un li rv:=
 .inr ⟨hmay,m',hp,aO hd hc rfl rfl⟩
theorem uc {key:ByteArray} (h:cU key=true):(key.data.toList.length:Int)≥1∧(key.data.toList.length:Int)≤16:=by
 unfold cU at h
 cases e1:decide ((key.data.toList.length:Int) > 0) with
 |false=>rw [e1] at h;cases h
 |true=>
  cases e2:decide ((key.data.toList.length:Int) < 17) with
  |false=>rw [e1,e2] at h;cases h
  |true=>have:=of_decide_eq_true e1;have:=of_decide_eq_true e2;omega
theorem vI {key:ByteArray} (h:cU key=false):decide ((key.data.toList.length:Int)≥1)=false∨(decide ((key.data.toList.length:Int)≥1)=true∧(!decide ((key.data.toList.length:Int)≤16))=true):=by
 by_cases h1:(key.data.toList.length:Int)≥1
 · by_cases h2:(key.data.toList.length:Int)≤16
   · exfalso
     unfold cU at h
     rw [decide_eq_true (by omega:(key.data.toList.length:Int) > 0),decide_eq_true (by omega:(key.data.toList.length:Int) < 17)] at h
     cases h
   · exact .inr ⟨decide_eq_true h1,by rw [decide_eq_false h2];rfl⟩
 · exact .inl (decide_eq_false h1)
theorem NC (kd:Int) (rd:Bool) (key val lo hi:ByteArray) (un:Bool) (li:Int) (rv:Bool) (hk:L[j]? =some (m.res k b)) (hm:m.dB=true) (hw:m.wf now u) (hu:u < 900) (h6:kd≠6) (hlo:lo.data.toList.length≤4294967295) (hc:30≤c):EP k now b kk j u c L m kd rd key val lo hi un li rv:=by
 have c31:30≤31:=by decide
 have hlob:(lo.data.toList.length.ble (4294967295:Nat))=true:=Nat.ble_eq_true_of_le hlo
 by_cases e1:kd=1
 · subst e1
   cases m with
   |out y m=>
    cases m <;> first|(cases hm;done)|skip
    exact jt hc (.out y (.b1 rd)) rfl ⟨rfl,fun _=>rfl,fun h=>absurd rfl h,.inr (.inr ⟨rfl,rfl,by decide,by decide⟩),rfl,trivial,Nat.le_of_ble_eq_true rfl⟩ (KQ rfl (aO (DN hk) c31 rfl rfl))
   |inn y nb ws m=>
    cases m <;> first|(cases hm;done)|skip
    exact eG hc (code:=13) rfl (by decide) (KQ rfl (aO (aq hk (DF hk)) c31 rfl rfl))
 by_cases e8:kd=8
 · subst e8
   cases m with
   |out y m=>
    cases m <;> first|(cases hm;done)|skip
    exact jt hc (.out y .f1) rfl ⟨rfl,fun h=>absurd h (by decide),fun _=>rfl,.inr (.inr ⟨rfl,rfl,by decide,by decide⟩),rfl,trivial,Nat.le_of_ble_eq_true rfl⟩ (KG rfl rfl rfl rfl rfl rfl rfl rfl (aO (ER hk) c31 rfl rfl))
   |inn y nb ws m=>
    cases m <;> first|(cases hm;done)|skip
    exact eG hc (code:=13) rfl (by decide) (KG rfl rfl rfl rfl rfl rfl rfl rfl (aO (aq hk (DJ hk)) c31 rfl rfl))
 by_cases e7:kd=7
 · subst e7
   cases m with
   |out y m=>
    cases m <;> first|(cases hm;done)|skip
    exact eG hc (code:=13) rfl (by decide) (Kt rfl rfl rfl rfl rfl rfl rfl (aO (aq hk (EV hk)) c31 rfl rfl))
   |inn y nb ws m=>
    cases m <;> first|(cases hm;done)|skip
    obtain⟨p1,p2,p3,_⟩:=hw
    exact jt hc (.inn y nb ws .a1) rfl ⟨rfl,fun h=>absurd h (by decide),fun _=>rfl,.inr (.inr ⟨rfl,rfl,by decide,by decide⟩),rfl,⟨by omega,by omega,p3,trivial⟩,Nat.le_of_ble_eq_true rfl⟩ (Kt rfl rfl rfl rfl rfl rfl rfl (aO (DV hk) c31 rfl rfl))
 by_cases e2:kd=2
 · subst e2
   cases m with
   |out y m=>
    cases m <;> first|(cases hm;done)|skip
    exact eG hc (code:=13) rfl (by decide) (vf rfl rfl (aO (aq hk (D5 hk)) c31 rfl rfl))
   |inn y nb ws m=>
    cases m <;> first|(cases hm;done)|skip
    obtain⟨p1,p2,p3,_⟩:=hw
    have hmy:ep 2 key val lo hi un (.inn y nb ws .idle)=bif !cU key then 1 else 0:=rfl
    cases hkk:cU key with
    |false=>
     rw [hkk] at hmy
     rcases vI hkk with q|⟨q1,q2⟩
     · exact eG hc (code:=1) hmy (by decide) (vf rfl rfl (aO (aq hk (EN q hk)) c31 rfl rfl))
     · exact eG hc (code:=1) hmy (by decide) (vf rfl rfl (aO (aq hk (Ez q1 q2 hk)) c31 rfl rfl))
    |true=>
     rw [hkk] at hmy
     have hq:=uc hkk
     rcases Qs (kk:=kk) hq.1 hq.2 p3 (by omega) (by omega) hk with⟨v,th,hd⟩|hd
     · exact jt hc (.inn y nb ws (.found v th)) hmy ⟨rfl,fun h=>absurd h (by decide),fun _=>rfl,.inr (.inl ⟨rfl,rfl,rfl,rfl,nofun⟩),rfl,⟨by omega,by omega,p3,trivial⟩,Nat.le_of_ble_eq_true rfl⟩ (vf rfl rfl (aO hd c31 rfl rfl))
     · exact jt hc (.inn y (nb+1) ws (.g1 key)) hmy ⟨rfl,fun h=>absurd h (by decide),fun _=>rfl,.inr (.inr ⟨rfl,rfl,by decide,by decide⟩),rfl,⟨by omega,by omega,p3,hq⟩,Nat.le_of_ble_eq_true rfl⟩ (vf rfl rfl (aO hd c31 rfl rfl))
 by_cases e3:kd=3
 · subst e3
   cases m with
   |out y m=>
    cases m <;> first|(cases hm;done)|skip
    exact eG hc (code:=13) rfl (by decide) (sC rfl rfl rfl (aO (aq hk (DL hk)) c31 rfl rfl))
   |inn y nb ws m=>
    cases m <;> first|(cases hm;done)|skip
    obtain⟨p1,p2,p3,_⟩:=hw
    have hmy:ep 3 key val lo hi un (.inn y nb ws .idle)=bif y then 15 else bif !cU key then 1 else bif decide ((val.data.toList.length:Int) > (16:Int)) then 1 else 0:=rfl
    cases y with
    |true=>exact eG hc (code:=15) hmy (by decide) (sC rfl rfl rfl (aO (aq hk (Ff rfl hk)) c31 rfl rfl))
    |false=>
    cases hkk:cU key with
    |false=>
     rw [hkk] at hmy
     rcases vI hkk with q|⟨q1,q2⟩
     · exact eG hc (code:=1) hmy (by decide) (sC rfl rfl rfl (aO (aq hk (DE rfl q hk)) c31 rfl rfl))
     · exact eG hc (code:=1) hmy (by decide) (sC rfl rfl rfl (aO (aq hk (Ea rfl q1 q2 hk)) c31 rfl rfl))
    |true=>
     rw [hkk] at hmy
     have hq:=uc hkk
     by_cases hv:(val.data.toList.length:Int) > 16
     · rw [decide_eq_true hv] at hmy
       exact eG hc (code:=1) hmy (by decide) (sC rfl rfl rfl (aO (aq hk (E0 rfl (decide_eq_true hq.1) (by rw [decide_eq_true hq.2];rfl) (decide_eq_true hv) hk)) c31 rfl rfl))
     · rw [decide_eq_false hv] at hmy
       obtain⟨ws',g1,g2,hd⟩:=Oc (kk:=kk) rfl hq.1 hq.2 hv p3 (by omega) hk
       exact jt hc (.inn false nb ws' .idle) hmy ⟨rfl,fun h=>absurd h (by decide),fun _=>rfl,.inl ⟨rfl,rfl,.inl rfl⟩,rfl,⟨by omega,by omega,g1,trivial⟩,Nat.le_of_ble_eq_true rfl⟩ (sC rfl rfl rfl (aO hd c31 rfl rfl))
 by_cases e4:kd=4
 · subst e4
   cases m with
   |out y m=>
    cases m <;> first|(cases hm;done)|skip
    exact eG hc (code:=13) rfl (by decide) (uU rfl rfl rfl rfl (aO (aq hk (EO hk)) c31 rfl rfl))
   |inn y nb ws m=>
    cases m <;> first|(cases hm;done)|skip
    obtain⟨p1,p2,p3,_⟩:=hw
    have hmy:ep 4 key val lo hi un (.inn y nb ws .idle)=bif y then 15 else bif !cU key then 1 else 0:=rfl
    cases y with
    |true=>exact eG hc (code:=15) hmy (by decide) (uU rfl rfl rfl rfl (aO (aq hk (Em rfl hk)) c31 rfl rfl))
    |false=>
    cases hkk:cU key with
    |false=>
     rw [hkk] at hmy
     rcases vI hkk with q|⟨q1,q2⟩
     · exact eG hc (code:=1) hmy (by decide) (uU rfl rfl rfl rfl (aO (aq hk (DD rfl q hk)) c31 rfl rfl))
     · exact eG hc (code:=1) hmy (by decide) (uU rfl rfl rfl rfl (aO (aq hk (Es rfl q1 q2 hk)) c31 rfl rfl))
    |true=>
     rw [hkk] at hmy
     have hq:=uc hkk
     obtain⟨ws',g1,g2,hd⟩:=LS (kk:=kk) rfl hq.1 hq.2 p3 (by omega) hk
     exact jt hc (.inn false nb ws' .idle) hmy ⟨rfl,fun h=>absurd h (by decide),fun _=>rfl,.inl ⟨rfl,rfl,.inr rfl⟩,rfl,⟨by omega,by omega,g1,trivial⟩,Nat.le_of_ble_eq_true rfl⟩ (uU rfl rfl rfl rfl (aO hd c31 rfl rfl))
 by_cases e5:kd=5
 · subst e5
   cases m with
   |out y m=>
    cases m <;> first|(cases hm;done)|skip
    exact eG hc (code:=13) rfl (by decide) (qf rfl rfl rfl rfl rfl (aO (aq hk (DH hk)) c31 rfl rfl))
   |inn y nb ws m=>
    cases m <;> first|(cases hm;done)|skip
    obtain⟨p1,p2,p3,_⟩:=hw
    have hmy:ep 5 key val lo hi un (.inn y nb ws .idle)=bif decide ((lo.data.toList.length:Int) > (16:Int)) then 1 else bif decide ((hi.data.toList.length:Int) > (16:Int)) then 1 else bif un then(bif !cH hi { data:= #[]} then 1 else 0) else bif !nC lo hi then 1 else 0:=rfl
    by_cases hl:(lo.data.toList.length:Int) > 16
    · rw [decide_eq_true hl] at hmy
      exact eG hc (code:=1) hmy (by decide) (qf rfl rfl rfl rfl rfl (aO (aq hk (EB (decide_eq_true hl) hk)) c31 rfl rfl))
    · have hl':=decide_eq_false hl
      rw [hl'] at hmy
      by_cases hh:(hi.data.toList.length:Int) > 16
      · rw [decide_eq_true hh] at hmy
        exact eG hc (code:=1) hmy (by decide) (qf rfl rfl rfl rfl rfl (aO (aq hk (E1 hl' (decide_eq_true hh) hk)) c31 rfl rfl))
      · have hh':=decide_eq_false hh
        rw [hh'] at hmy
        cases un with
        |true=>
         cases hs:cH hi { data:= #[]} with
         |false=>
          rw [hs] at hmy
          exact eG hc (code:=1) hmy (by decide) (qf rfl rfl rfl rfl rfl (aO (aq hk (E7 hl' hh' rfl (by rw [hs];rfl) hk)) c31 rfl rfl))
         |true=>
          rw [hs] at hmy
          exact jt hc (.inn y (nb+2) ws (.r1 lo hi true li rv)) hmy ⟨rfl,fun h=>absurd h (by decide),fun _=>rfl,.inr (.inr ⟨rfl,rfl,by decide,by decide⟩),rfl,⟨by omega,by omega,p3,by omega,by omega,hs⟩,Nat.le_of_ble_eq_true rfl⟩ (qf rfl rfl rfl rfl rfl (aO (wM Df (Fv hl' hh' rfl (by rw [hs];rfl) rfl (by omega) hk)) c31 rfl rfl))
        |false=>
         by_cases hb:de lo hi < 0
         · rw [CX,decide_eq_true hb] at hmy
           exact jt hc (.inn y (nb+2) ws (.r1 lo hi false li rv)) hmy ⟨rfl,fun h=>absurd h (by decide),fun _=>rfl,.inr (.inr ⟨rfl,rfl,by decide,by decide⟩),rfl,⟨by omega,by omega,p3,by omega,by omega,hb⟩,Nat.le_of_ble_eq_true rfl⟩ (qf rfl rfl rfl rfl rfl (aO (wM Df (Ed hl' hh' rfl rfl hlob (decide_eq_false (by omega)) (by omega) hk)) c31 rfl rfl))
         · rw [CX,decide_eq_false hb] at hmy
           exact eG hc (code:=1) hmy (by decide) (qf rfl rfl rfl rfl rfl (aO (aq hk (DW hl' hh' rfl rfl hlob (decide_eq_true (by omega)) hk)) c31 rfl rfl))
 · have hmy:ep kd key val lo hi un m=1:=by
    unfold ep bf
    by_cases q1:kd < 1
    · rw [decide_eq_true q1];rfl
    · rw [decide_eq_false q1,decide_eq_true (by omega:kd > 8)];rfl
   have ne:∀n:Int,kd≠n→(kd==n)=false:=fun n h=>by simp [h]
   exact eG hc (code:=1) hmy (by decide) (RO (ev:= .nilIface) (Y2:=ad L) (ne _ e1) (ne _ e2) (ne _ e3) (ne _ e4) (ne _ e5) (ne _ h6) (ne _ e7) (ne _ e8))
end
end
end Go.Proofs.YtalanookmohdeaaGreatDoor
namespace Go.Sx
variable {P:Program}
def dL (n m x:Nat):Option Nat:=if x=n then some m else if x=m then none else some x
def Env.dL (r:Env) (n m:Nat):Env:=⟨fun x=>if x=m then r.blk n else r.blk x,fun x=>if x=m then r.cap n else r.cap x,fun x=>if x=m then r.val n else r.val x⟩
def nM (n m:Nat) (ow:Nat→Option Nat):Nat→Option Nat:=fun b=>match ow b with
 |some x=>some (if x=n then m else x)
 |none=>none
def ia (n m:Nat) (H H':Heap):Prop:=∀k x',H'.get k=some x'→∃i x,H.get i=some x∧dL n m i=some k∧az (x.bC (dL n m)) x'
theorem vt {r:Env}{n m:Nat} (h:r.blk m=none∧r.val m=none):r.Le (r.dL n m):=⟨fun x b e=>by
  show(if x=m then _ else _)=_
  split
  · rename_i q;subst q;rw [h.1] at e;cases e
  · exact e,fun x b e=>by
  show(if x=m then _ else _)=_
  split
  · rename_i q;subst q;rw [h.1] at e;cases e
  · rfl,fun x v e=>by
  show(if x=m then _ else _)=_
  split
  · rename_i q;subst q;rw [h.2] at e;cases e
  · exact e⟩
theorem MK {r:Env}{n m:Nat}:∀x y,dL n m x=some y→(r.dL n m).blk y=r.blk x∧(r.dL n m).cap y=r.cap x∧(r.dL n m).val y=r.val x:=fun x y e=>by
 unfold dL at e
 split at e
 · rename_i q;cases e;subst q;exact⟨if_pos rfl,if_pos rfl,if_pos rfl⟩
 · split at e
   · cases e
   · rename_i q;cases e;exact⟨if_neg q,if_neg q,if_neg q⟩
theorem Ds {r:Env}{ow:Nat→Option Nat}{H H':Heap}{w:World}{n m:Nat} (hs:Sat P r ow H w) (hm:r.blk m=none∧r.val m=none) (hH:ia n m H H'):Sat P (r.dL n m) (nM n m ow) H' w:=by
 refine⟨fun k x' e=> ?_,fun b x e=> ?_,fun b x e=> ?_⟩
 · obtain⟨i,x,h1,h2,h3⟩:=hH k x' e
   refine oi MK (fun b hb=> ?_) h2 h3 (hs.chunk i x h1)
   simp only [nM,hb]
   unfold dL at h2
   split at h2
   · cases h2;rename_i q;rw [if_pos q]
   · split at h2
     · cases h2
     · cases h2;rename_i q _;rw [if_neg q]
 · unfold nM at e
   split at e
   · rename_i y q;exact hs.bound b y q
   · cases e
 · unfold nM at e
   split at e
   · rename_i y q
     cases e
     have:=hs.known b y q
     by_cases e1:y=n
     · subst e1
       rw [if_pos rfl]
       show(if m=m then _ else _)≠_∨(if m=m then _ else _)≠_
       rw [if_pos rfl,if_pos rfl];exact this
     · rw [if_neg e1]
       show(if y=m then _ else _)≠_∨(if y=m then _ else _)≠_
       by_cases e2:y=m
       · subst e2
         exact absurd this (by rw [hm.1,hm.2];simp)
       · rw [if_neg e2,if_neg e2];exact this
   · cases e
theorem CZ {r:Env}{n m c c1:Nat} (h1:c≤m) (h2:m < c1):fI r (r.dL n m) c c1:=⟨fun x h=>by
  by_cases q:x=m
  · subst q;exact .inr ⟨h1,h2⟩
  · have e:(r.dL n m).blk x=r.blk x:=if_neg q
    rw [e] at h;exact .inl h,fun x h=>by
  by_cases q:x=m
  · subst q;exact .inr ⟨h1,h2⟩
  · have e:(r.dL n m).val x=r.val x:=if_neg q
    rw [e] at h;exact .inl h⟩
theorem Cu {ow:Nat→Option Nat}{n m c c1:Nat} (h1:c≤m) (h2:m < c1):∀b x,nM n m ow b=some x→(∃b',ow b'=some x)∨(c≤x∧x < c1):=fun b x e=>by
 unfold nM at e
 split at e
 · rename_i y q
   cases e
   by_cases e1:y=n
   · rw [if_pos e1];exact .inr ⟨h1,h2⟩
   · rw [if_neg e1];exact .inl ⟨b,q⟩
 · cases e
theorem yI {ow:Nat→Option Nat}{n m:Nat}:∀b,ow b=none→nM n m ow b=none:=fun b e=>by simp [nM,e]
theorem iD {cm cm' n m:Nat}{H H':Heap}{T:List Value} (h1:cm≤m) (h2:m < cm') (hH:ia n m H H'):Conv P (I:=Unit) cm cm' H T (fun _=>H') (fun _=>T):=
 ⟨fun r ow w hs hf=>⟨(),r.dL n m,nM n m ow,vt (hf m h1 h2),Ds hs (hf m h1 h2) hH,CZ h1 h2,Cu h1 h2,yI,fun us h=>h.mono (vt (hf m h1 h2))⟩⟩
theorem iC {c c1 c2 n m:Nat}{h0 H H':Heap}{f:FuncId}{args:List Value}{v:Value} (h:ab P c h0 c1 H (.call f args) (.val v)) (h1:c1≤m) (h2:m < c2) (hH:ia n m H H'):ab P c h0 c2 H' (.call f args) (.val v):=by
 refine⟨Nat.le_trans h.1 (by omega),fun r ow w hs hf us hu=>Calls.mono (h.2 r ow w hs (hf.sub (Nat.le_refl _) (by omega)) us hu) fun e w' ⟨r',ow',u,he,hp,hv⟩=> ?_⟩
 have hfr:bF r' c1 c2:=iT hf hp.new h.1 (Nat.le_refl _)
 have hm:=hfr m h1 h2
 refine⟨r'.dL n m,nM n m ow',u,he,?_,hv.mono (vt hm)⟩
 have hq:aN P r' ow' w' (bb c1 H) (r'.dL n m) (nM n m ow') w' (bb c2 H'):=⟨vt hm,Ds hp.sat hm hH,⟨rfl,rfl,rfl,Nat.le_refl _,fun b _ ho=>⟨yI b ho,rfl⟩⟩,CZ h1 h2,by show c1≤c2;omega,Cu h1 h2⟩
 exact hp.trans hq
theorem mj {c c' c1:Nat}{h0 h1:Heap}{f:FuncId}{args:List Value}{v:Value} (h:ab P c h0 c1 h1 (.call f args) (.val v)) (hc:c'≤c):ab P c' h0 c1 h1 (.call f args) (.val v):=by
 refine⟨Nat.le_trans hc h.1,fun r ow w hs hf us hu=>Calls.mono (h.2 r ow w hs (hf.sub hc (Nat.le_refl _)) us hu) fun e w' ⟨r',ow',u,he,hp,hv⟩=>⟨r',ow',u,he,⟨hp.le,hp.sat,hp.frame,⟨fun x q=>(hp.new.1 x q).imp id fun⟨q1,q2⟩=>⟨Nat.le_trans hc q1,q2⟩,fun x q=>(hp.new.2 x q).imp id fun⟨q1,q2⟩=>⟨Nat.le_trans hc q1,q2⟩⟩,Nat.le_trans hc hp.mono,fun b x q=>(hp.own b x q).imp id fun⟨q1,q2⟩=>⟨Nat.le_trans hc q1,q2⟩⟩,hv⟩⟩
end Go.Sx
