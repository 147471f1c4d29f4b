/- What guiseref13's stacks come to at an instruction is what the program's come to. -/
import Derived.Test.YtagnicbknbmccaaGreatDoorMRfF
import Derived.Test.YtagnicbknbmccaaGreatDoorMScanA
namespace Go.Proofs.YtagnicbknbmccaaGreatDoor
def valuesR (x:Ci):Int×Int:=
 if x.op=1∨x.op=2∨x.op=34 then(0,0)
 else if x.op=3∨x.op=4∨x.op=5∨x.op=6∨x.op=7∨x.op=8∨x.op=9∨x.op=10∨x.op=11∨x.op=23∨x.op=31 then(0,1)
 else if x.op=12∨x.op=13∨x.op=14∨x.op=15∨x.op=16∨x.op=35∨x.op=36∨x.op=37∨x.op=50 then(1,0)
 else if x.op=17∨x.op=33 then(1,2) else if x.op=18∨x.op=20∨x.op=21∨x.op=22∨x.op=30∨x.op=32 then(1,1)
 else if x.op=19∨x.op=24 then(2,1) else if x.op=25 then(2,2)
 else if x.op=26 then(1+x.a-(x.b % 2+x.b/2),1)
 else if x.op=27∨x.op=29∨x.op=47 then(x.a,1) else if x.op=28 then(2*x.a,1) else if x.op=46 then(x.a+1,1) else if x.op=48 then(x.a+1,0) else if x.op=49 then(x.a,0) else(-1,0)
def doesR (x:Ci) (s:List UInt8):Option (Option (List UInt8)×Option (List UInt8)):=
 if 0≤(valuesR x).1 then match lessP s 118 (valuesR x).1.toNat with
  |none=>none
  |some t=>
   let u:=List.replicate (valuesR x).2.toNat 118++t
   if x.op=50 then some (none,none) else if x.op=34 then some (none,some u) else if x.op=35 then some (some u,some u) else if x.op=36∨x.op=37 then some (some u,some (118::u)) else some (some u,none)
 else if x.op=38∨x.op=39∨x.op=40 then some (some (112::s),none)
 else if x.op=41 then(lessP s 118 1).map fun t=>(some (112::t),none)
 else if x.op=42 then(lessP s 118 2).map fun t=>(some (112::t),none)
 else if x.op=43 then(match lessP s 118 1 with
  |some t=>some (some (112::t),none)
  |none=>(lessP s 112 1).map fun t=>(some (112::t),none))
 else if x.op=44 then(lessP s 112 1).map fun _=>(some (118::s),none)
 else if x.op=45 then(match lessP s 118 1 with
  |some t=>(lessP t 112 1).map fun u=>(some u,none)
  |none=>none)
 else if x.op=51 then(lessP s 118 1).map fun t=>(some (116::t),none)
 else if x.op=52 then(lessP s 116 1).map fun t=>(some (118::118::s),some t)
 else if x.op=53 then(lessP s 116 x.a.toNat).map fun t=>(some t,none)
 else some (some s,none)
def tooHigh (o:Option (List UInt8)):Bool:=match o with
 |none=>false
 |some t=>decide (30000<t.length)
def stepR (x:Ci) (s:List UInt8):Option (Option (List UInt8)×Option (List UInt8)):=match doesR x s with
 |none=>none
 |some q=>if tooHigh q.1||tooHigh q.2 then none else some q
def leafR (x:Ci) (s:List UInt8):Option (Option (List UInt8)×Option (List UInt8)):=match leavesP x s with
 |none=>none
 |some q=>some (if x.op=34∨x.op=50 then none else some q.1,if goesB x.op=true then some q.2 else none)
theorem step_1 (a b q:Int) (t:ByteArray) (s:List UInt8) (hs:s.length≤30000):stepR ⟨1,a,b,t,q⟩ s=leafR ⟨1,a,b,t,q⟩ s:=by
 have hv:valuesR ⟨1,a,b,t,q⟩=(0,0):=rfl
 have hg:goesB 1=false:=rfl
 unfold stepR leafR doesR
 rw[hv,leaves_values (c:=0) (a:=0) (b:=0) rfl rfl rfl]
 simp only[hg]
 cases h:lessP s 118 0 with
 |none=>simp[h]
 |some u=>
  have hl:=less_lenR 118 0 s u h
  have h2:lessP s 118 (0+0)=some u:=h
  by_cases hh:u.length+0≤30000
  ·simp[h,tooHigh,List.replicate]
   try omega
  ·simp[h,tooHigh,List.replicate]
   try omega
theorem step_2 (a b q:Int) (t:ByteArray) (s:List UInt8) (hs:s.length≤30000):stepR ⟨2,a,b,t,q⟩ s=leafR ⟨2,a,b,t,q⟩ s:=by
 have hv:valuesR ⟨2,a,b,t,q⟩=(0,0):=rfl
 have hg:goesB 2=false:=rfl
 unfold stepR leafR doesR
 rw[hv,leaves_values (c:=0) (a:=0) (b:=0) rfl rfl rfl]
 simp only[hg]
 cases h:lessP s 118 0 with
 |none=>simp[h]
 |some u=>
  have hl:=less_lenR 118 0 s u h
  have h2:lessP s 118 (0+0)=some u:=h
  by_cases hh:u.length+0≤30000
  ·simp[h,tooHigh,List.replicate]
   try omega
  ·simp[h,tooHigh,List.replicate]
   try omega
theorem step_3 (a b q:Int) (t:ByteArray) (s:List UInt8) (_hs:s.length≤30000):stepR ⟨3,a,b,t,q⟩ s=leafR ⟨3,a,b,t,q⟩ s:=by
 have hv:valuesR ⟨3,a,b,t,q⟩=(0,1):=rfl
 have hg:goesB 3=false:=rfl
 unfold stepR leafR doesR
 rw[hv,leaves_values (c:=0) (a:=0) (b:=1) rfl rfl rfl]
 simp only[hg]
 cases h:lessP s 118 0 with
 |none=>simp[h]
 |some u=>
  have hl:=less_lenR 118 0 s u h
  have h2:lessP s 118 (0+0)=some u:=h
  by_cases hh:u.length+1≤30000
  ·simp[h,tooHigh,hh,List.replicate]
   try omega
  ·simp[h,tooHigh,hh]
   try omega
theorem step_4 (a b q:Int) (t:ByteArray) (s:List UInt8) (_hs:s.length≤30000):stepR ⟨4,a,b,t,q⟩ s=leafR ⟨4,a,b,t,q⟩ s:=by
 have hv:valuesR ⟨4,a,b,t,q⟩=(0,1):=rfl
 have hg:goesB 4=false:=rfl
 unfold stepR leafR doesR
 rw[hv,leaves_values (c:=0) (a:=0) (b:=1) rfl rfl rfl]
 simp only[hg]
 cases h:lessP s 118 0 with
 |none=>simp[h]
 |some u=>
  have hl:=less_lenR 118 0 s u h
  have h2:lessP s 118 (0+0)=some u:=h
  by_cases hh:u.length+1≤30000
  ·simp[h,tooHigh,hh,List.replicate]
   try omega
  ·simp[h,tooHigh,hh]
   try omega
theorem step_5 (a b q:Int) (t:ByteArray) (s:List UInt8) (_hs:s.length≤30000):stepR ⟨5,a,b,t,q⟩ s=leafR ⟨5,a,b,t,q⟩ s:=by
 have hv:valuesR ⟨5,a,b,t,q⟩=(0,1):=rfl
 have hg:goesB 5=false:=rfl
 unfold stepR leafR doesR
 rw[hv,leaves_values (c:=0) (a:=0) (b:=1) rfl rfl rfl]
 simp only[hg]
 cases h:lessP s 118 0 with
 |none=>simp[h]
 |some u=>
  have hl:=less_lenR 118 0 s u h
  have h2:lessP s 118 (0+0)=some u:=h
  by_cases hh:u.length+1≤30000
  ·simp[h,tooHigh,hh,List.replicate]
   try omega
  ·simp[h,tooHigh,hh]
   try omega
theorem step_6 (a b q:Int) (t:ByteArray) (s:List UInt8) (_hs:s.length≤30000):stepR ⟨6,a,b,t,q⟩ s=leafR ⟨6,a,b,t,q⟩ s:=by
 have hv:valuesR ⟨6,a,b,t,q⟩=(0,1):=rfl
 have hg:goesB 6=false:=rfl
 unfold stepR leafR doesR
 rw[hv,leaves_values (c:=0) (a:=0) (b:=1) rfl rfl rfl]
 simp only[hg]
 cases h:lessP s 118 0 with
 |none=>simp[h]
 |some u=>
  have hl:=less_lenR 118 0 s u h
  have h2:lessP s 118 (0+0)=some u:=h
  by_cases hh:u.length+1≤30000
  ·simp[h,tooHigh,hh,List.replicate]
   try omega
  ·simp[h,tooHigh,hh]
   try omega
theorem step_7 (a b q:Int) (t:ByteArray) (s:List UInt8) (_hs:s.length≤30000):stepR ⟨7,a,b,t,q⟩ s=leafR ⟨7,a,b,t,q⟩ s:=by
 have hv:valuesR ⟨7,a,b,t,q⟩=(0,1):=rfl
 have hg:goesB 7=false:=rfl
 unfold stepR leafR doesR
 rw[hv,leaves_values (c:=0) (a:=0) (b:=1) rfl rfl rfl]
 simp only[hg]
 cases h:lessP s 118 0 with
 |none=>simp[h]
 |some u=>
  have hl:=less_lenR 118 0 s u h
  have h2:lessP s 118 (0+0)=some u:=h
  by_cases hh:u.length+1≤30000
  ·simp[h,tooHigh,hh,List.replicate]
   try omega
  ·simp[h,tooHigh,hh]
   try omega
theorem step_8 (a b q:Int) (t:ByteArray) (s:List UInt8) (_hs:s.length≤30000):stepR ⟨8,a,b,t,q⟩ s=leafR ⟨8,a,b,t,q⟩ s:=by
 have hv:valuesR ⟨8,a,b,t,q⟩=(0,1):=rfl
 have hg:goesB 8=false:=rfl
 unfold stepR leafR doesR
 rw[hv,leaves_values (c:=0) (a:=0) (b:=1) rfl rfl rfl]
 simp only[hg]
 cases h:lessP s 118 0 with
 |none=>simp[h]
 |some u=>
  have hl:=less_lenR 118 0 s u h
  have h2:lessP s 118 (0+0)=some u:=h
  by_cases hh:u.length+1≤30000
  ·simp[h,tooHigh,hh,List.replicate]
   try omega
  ·simp[h,tooHigh,hh]
   try omega
theorem step_9 (a b q:Int) (t:ByteArray) (s:List UInt8) (_hs:s.length≤30000):stepR ⟨9,a,b,t,q⟩ s=leafR ⟨9,a,b,t,q⟩ s:=by
 have hv:valuesR ⟨9,a,b,t,q⟩=(0,1):=rfl
 have hg:goesB 9=false:=rfl
 unfold stepR leafR doesR
 rw[hv,leaves_values (c:=0) (a:=0) (b:=1) rfl rfl rfl]
 simp only[hg]
 cases h:lessP s 118 0 with
 |none=>simp[h]
 |some u=>
  have hl:=less_lenR 118 0 s u h
  have h2:lessP s 118 (0+0)=some u:=h
  by_cases hh:u.length+1≤30000
  ·simp[h,tooHigh,hh,List.replicate]
   try omega
  ·simp[h,tooHigh,hh]
   try omega
theorem step_10 (a b q:Int) (t:ByteArray) (s:List UInt8) (_hs:s.length≤30000):stepR ⟨10,a,b,t,q⟩ s=leafR ⟨10,a,b,t,q⟩ s:=by
 have hv:valuesR ⟨10,a,b,t,q⟩=(0,1):=rfl
 have hg:goesB 10=false:=rfl
 unfold stepR leafR doesR
 rw[hv,leaves_values (c:=0) (a:=0) (b:=1) rfl rfl rfl]
 simp only[hg]
 cases h:lessP s 118 0 with
 |none=>simp[h]
 |some u=>
  have hl:=less_lenR 118 0 s u h
  have h2:lessP s 118 (0+0)=some u:=h
  by_cases hh:u.length+1≤30000
  ·simp[h,tooHigh,hh,List.replicate]
   try omega
  ·simp[h,tooHigh,hh]
   try omega
theorem step_11 (a b q:Int) (t:ByteArray) (s:List UInt8) (_hs:s.length≤30000):stepR ⟨11,a,b,t,q⟩ s=leafR ⟨11,a,b,t,q⟩ s:=by
 have hv:valuesR ⟨11,a,b,t,q⟩=(0,1):=rfl
 have hg:goesB 11=false:=rfl
 unfold stepR leafR doesR
 rw[hv,leaves_values (c:=0) (a:=0) (b:=1) rfl rfl rfl]
 simp only[hg]
 cases h:lessP s 118 0 with
 |none=>simp[h]
 |some u=>
  have hl:=less_lenR 118 0 s u h
  have h2:lessP s 118 (0+0)=some u:=h
  by_cases hh:u.length+1≤30000
  ·simp[h,tooHigh,hh,List.replicate]
   try omega
  ·simp[h,tooHigh,hh]
   try omega
theorem step_12 (a b q:Int) (t:ByteArray) (s:List UInt8) (hs:s.length≤30000):stepR ⟨12,a,b,t,q⟩ s=leafR ⟨12,a,b,t,q⟩ s:=by
 have hv:valuesR ⟨12,a,b,t,q⟩=(1,0):=rfl
 have hg:goesB 12=false:=rfl
 unfold stepR leafR doesR
 rw[hv,leaves_values (c:=0) (a:=1) (b:=0) rfl rfl rfl]
 simp only[hg]
 cases h:lessP s 118 1 with
 |none=>simp[h]
 |some u=>
  have hl:=less_lenR 118 1 s u h
  have h2:lessP s 118 (0+1)=some u:=h
  by_cases hh:u.length+0≤30000
  ·simp[h,tooHigh,List.replicate]
   try omega
  ·simp[h,tooHigh,List.replicate]
   try omega
theorem step_13 (a b q:Int) (t:ByteArray) (s:List UInt8) (hs:s.length≤30000):stepR ⟨13,a,b,t,q⟩ s=leafR ⟨13,a,b,t,q⟩ s:=by
 have hv:valuesR ⟨13,a,b,t,q⟩=(1,0):=rfl
 have hg:goesB 13=false:=rfl
 unfold stepR leafR doesR
 rw[hv,leaves_values (c:=0) (a:=1) (b:=0) rfl rfl rfl]
 simp only[hg]
 cases h:lessP s 118 1 with
 |none=>simp[h]
 |some u=>
  have hl:=less_lenR 118 1 s u h
  have h2:lessP s 118 (0+1)=some u:=h
  by_cases hh:u.length+0≤30000
  ·simp[h,tooHigh,List.replicate]
   try omega
  ·simp[h,tooHigh,List.replicate]
   try omega
theorem step_14 (a b q:Int) (t:ByteArray) (s:List UInt8) (hs:s.length≤30000):stepR ⟨14,a,b,t,q⟩ s=leafR ⟨14,a,b,t,q⟩ s:=by
 have hv:valuesR ⟨14,a,b,t,q⟩=(1,0):=rfl
 have hg:goesB 14=false:=rfl
 unfold stepR leafR doesR
 rw[hv,leaves_values (c:=0) (a:=1) (b:=0) rfl rfl rfl]
 simp only[hg]
 cases h:lessP s 118 1 with
 |none=>simp[h]
 |some u=>
  have hl:=less_lenR 118 1 s u h
  have h2:lessP s 118 (0+1)=some u:=h
  by_cases hh:u.length+0≤30000
  ·simp[h,tooHigh,List.replicate]
   try omega
  ·simp[h,tooHigh,List.replicate]
   try omega
theorem step_15 (a b q:Int) (t:ByteArray) (s:List UInt8) (hs:s.length≤30000):stepR ⟨15,a,b,t,q⟩ s=leafR ⟨15,a,b,t,q⟩ s:=by
 have hv:valuesR ⟨15,a,b,t,q⟩=(1,0):=rfl
 have hg:goesB 15=false:=rfl
 unfold stepR leafR doesR
 rw[hv,leaves_values (c:=0) (a:=1) (b:=0) rfl rfl rfl]
 simp only[hg]
 cases h:lessP s 118 1 with
 |none=>simp[h]
 |some u=>
  have hl:=less_lenR 118 1 s u h
  have h2:lessP s 118 (0+1)=some u:=h
  by_cases hh:u.length+0≤30000
  ·simp[h,tooHigh,List.replicate]
   try omega
  ·simp[h,tooHigh,List.replicate]
   try omega
theorem step_16 (a b q:Int) (t:ByteArray) (s:List UInt8) (hs:s.length≤30000):stepR ⟨16,a,b,t,q⟩ s=leafR ⟨16,a,b,t,q⟩ s:=by
 have hv:valuesR ⟨16,a,b,t,q⟩=(1,0):=rfl
 have hg:goesB 16=false:=rfl
 unfold stepR leafR doesR
 rw[hv,leaves_values (c:=0) (a:=1) (b:=0) rfl rfl rfl]
 simp only[hg]
 cases h:lessP s 118 1 with
 |none=>simp[h]
 |some u=>
  have hl:=less_lenR 118 1 s u h
  have h2:lessP s 118 (0+1)=some u:=h
  by_cases hh:u.length+0≤30000
  ·simp[h,tooHigh,List.replicate]
   try omega
  ·simp[h,tooHigh,List.replicate]
   try omega
theorem step_17 (a b q:Int) (t:ByteArray) (s:List UInt8) (_hs:s.length≤30000):stepR ⟨17,a,b,t,q⟩ s=leafR ⟨17,a,b,t,q⟩ s:=by
 have hv:valuesR ⟨17,a,b,t,q⟩=(1,2):=rfl
 have hg:goesB 17=false:=rfl
 unfold stepR leafR doesR
 rw[hv,leaves_values (c:=0) (a:=1) (b:=2) rfl rfl rfl]
 simp only[hg]
 cases h:lessP s 118 1 with
 |none=>simp[h]
 |some u=>
  have hl:=less_lenR 118 1 s u h
  have h2:lessP s 118 (0+1)=some u:=h
  by_cases hh:u.length+2≤30000
  ·simp[h,tooHigh,hh,List.replicate]
   try omega
  ·simp[h,tooHigh,hh,List.replicate]
   try omega
theorem step_18 (a b q:Int) (t:ByteArray) (s:List UInt8) (_hs:s.length≤30000):stepR ⟨18,a,b,t,q⟩ s=leafR ⟨18,a,b,t,q⟩ s:=by
 have hv:valuesR ⟨18,a,b,t,q⟩=(1,1):=rfl
 have hg:goesB 18=false:=rfl
 unfold stepR leafR doesR
 rw[hv,leaves_values (c:=0) (a:=1) (b:=1) rfl rfl rfl]
 simp only[hg]
 cases h:lessP s 118 1 with
 |none=>simp[h]
 |some u=>
  have hl:=less_lenR 118 1 s u h
  have h2:lessP s 118 (0+1)=some u:=h
  by_cases hh:u.length+1≤30000
  ·simp[h,tooHigh,hh,List.replicate]
   try omega
  ·simp[h,tooHigh,hh]
   try omega
theorem step_19 (a b q:Int) (t:ByteArray) (s:List UInt8) (_hs:s.length≤30000):stepR ⟨19,a,b,t,q⟩ s=leafR ⟨19,a,b,t,q⟩ s:=by
 have hv:valuesR ⟨19,a,b,t,q⟩=(2,1):=rfl
 have hg:goesB 19=false:=rfl
 unfold stepR leafR doesR
 rw[hv,leaves_values (c:=0) (a:=2) (b:=1) rfl rfl rfl]
 simp only[hg]
 cases h:lessP s 118 2 with
 |none=>simp[h]
 |some u=>
  have hl:=less_lenR 118 2 s u h
  have h2:lessP s 118 (0+2)=some u:=h
  by_cases hh:u.length+1≤30000
  ·simp[h,tooHigh,hh,List.replicate]
   try omega
  ·simp[h,tooHigh,hh]
   try omega
theorem step_20 (a b q:Int) (t:ByteArray) (s:List UInt8) (_hs:s.length≤30000):stepR ⟨20,a,b,t,q⟩ s=leafR ⟨20,a,b,t,q⟩ s:=by
 have hv:valuesR ⟨20,a,b,t,q⟩=(1,1):=rfl
 have hg:goesB 20=false:=rfl
 unfold stepR leafR doesR
 rw[hv,leaves_values (c:=0) (a:=1) (b:=1) rfl rfl rfl]
 simp only[hg]
 cases h:lessP s 118 1 with
 |none=>simp[h]
 |some u=>
  have hl:=less_lenR 118 1 s u h
  have h2:lessP s 118 (0+1)=some u:=h
  by_cases hh:u.length+1≤30000
  ·simp[h,tooHigh,hh,List.replicate]
   try omega
  ·simp[h,tooHigh,hh]
   try omega
theorem step_21 (a b q:Int) (t:ByteArray) (s:List UInt8) (_hs:s.length≤30000):stepR ⟨21,a,b,t,q⟩ s=leafR ⟨21,a,b,t,q⟩ s:=by
 have hv:valuesR ⟨21,a,b,t,q⟩=(1,1):=rfl
 have hg:goesB 21=false:=rfl
 unfold stepR leafR doesR
 rw[hv,leaves_values (c:=0) (a:=1) (b:=1) rfl rfl rfl]
 simp only[hg]
 cases h:lessP s 118 1 with
 |none=>simp[h]
 |some u=>
  have hl:=less_lenR 118 1 s u h
  have h2:lessP s 118 (0+1)=some u:=h
  by_cases hh:u.length+1≤30000
  ·simp[h,tooHigh,hh,List.replicate]
   try omega
  ·simp[h,tooHigh,hh]
   try omega
theorem step_22 (a b q:Int) (t:ByteArray) (s:List UInt8) (_hs:s.length≤30000):stepR ⟨22,a,b,t,q⟩ s=leafR ⟨22,a,b,t,q⟩ s:=by
 have hv:valuesR ⟨22,a,b,t,q⟩=(1,1):=rfl
 have hg:goesB 22=false:=rfl
 unfold stepR leafR doesR
 rw[hv,leaves_values (c:=0) (a:=1) (b:=1) rfl rfl rfl]
 simp only[hg]
 cases h:lessP s 118 1 with
 |none=>simp[h]
 |some u=>
  have hl:=less_lenR 118 1 s u h
  have h2:lessP s 118 (0+1)=some u:=h
  by_cases hh:u.length+1≤30000
  ·simp[h,tooHigh,hh,List.replicate]
   try omega
  ·simp[h,tooHigh,hh]
   try omega
theorem step_23 (a b q:Int) (t:ByteArray) (s:List UInt8) (_hs:s.length≤30000):stepR ⟨23,a,b,t,q⟩ s=leafR ⟨23,a,b,t,q⟩ s:=by
 have hv:valuesR ⟨23,a,b,t,q⟩=(0,1):=rfl
 have hg:goesB 23=false:=rfl
 unfold stepR leafR doesR
 rw[hv,leaves_values (c:=0) (a:=0) (b:=1) rfl rfl rfl]
 simp only[hg]
 cases h:lessP s 118 0 with
 |none=>simp[h]
 |some u=>
  have hl:=less_lenR 118 0 s u h
  have h2:lessP s 118 (0+0)=some u:=h
  by_cases hh:u.length+1≤30000
  ·simp[h,tooHigh,hh,List.replicate]
   try omega
  ·simp[h,tooHigh,hh]
   try omega
theorem step_24 (a b q:Int) (t:ByteArray) (s:List UInt8) (_hs:s.length≤30000):stepR ⟨24,a,b,t,q⟩ s=leafR ⟨24,a,b,t,q⟩ s:=by
 have hv:valuesR ⟨24,a,b,t,q⟩=(2,1):=rfl
 have hg:goesB 24=false:=rfl
 unfold stepR leafR doesR
 rw[hv,leaves_values (c:=0) (a:=2) (b:=1) rfl rfl rfl]
 simp only[hg]
 cases h:lessP s 118 2 with
 |none=>simp[h]
 |some u=>
  have hl:=less_lenR 118 2 s u h
  have h2:lessP s 118 (0+2)=some u:=h
  by_cases hh:u.length+1≤30000
  ·simp[h,tooHigh,hh,List.replicate]
   try omega
  ·simp[h,tooHigh,hh]
   try omega
theorem step_25 (a b q:Int) (t:ByteArray) (s:List UInt8) (_hs:s.length≤30000):stepR ⟨25,a,b,t,q⟩ s=leafR ⟨25,a,b,t,q⟩ s:=by
 have hv:valuesR ⟨25,a,b,t,q⟩=(2,2):=rfl
 have hg:goesB 25=false:=rfl
 unfold stepR leafR doesR
 rw[hv,leaves_values (c:=0) (a:=2) (b:=2) rfl rfl rfl]
 simp only[hg]
 cases h:lessP s 118 2 with
 |none=>simp[h]
 |some u=>
  have hl:=less_lenR 118 2 s u h
  have h2:lessP s 118 (0+2)=some u:=h
  by_cases hh:u.length+2≤30000
  ·simp[h,tooHigh,hh,List.replicate]
   try omega
  ·simp[h,tooHigh,hh,List.replicate]
   try omega
theorem step_27 (a b q:Int) (t:ByteArray) (s:List UInt8) (_hs:s.length≤30000) (ha:0≤a):stepR ⟨27,a,b,t,q⟩ s=leafR ⟨27,a,b,t,q⟩ s:=by
 obtain⟨n,rfl⟩:=Int.eq_ofNat_of_zero_le ha
 have hv:valuesR ⟨27,n,b,t,q⟩=((n:Int),1):=rfl
 have hg:goesB 27=false:=rfl
 have hn:((n:Int)).toNat=n+0:=by omega
 have h0:0≤((n:Int)):=by omega
 unfold stepR leafR doesR
 rw[hv,leaves_values (c:=n) (a:=0) (b:=1) (by show((118:UInt8),(n:Int))=_;simp) rfl rfl]
 simp only[hg,hn,h0]
 cases h:lessP s 118 (n+0) with
 |none=>simp
 |some u=>
  have hl:=less_lenR 118 _ s u h
  by_cases hh:u.length+1≤30000
  ·simp[tooHigh,hh,List.replicate]
   try omega
  ·simp[tooHigh,hh]
   try omega
theorem step_28 (a b q:Int) (t:ByteArray) (s:List UInt8) (_hs:s.length≤30000) (ha:0≤a):stepR ⟨28,a,b,t,q⟩ s=leafR ⟨28,a,b,t,q⟩ s:=by
 obtain⟨n,rfl⟩:=Int.eq_ofNat_of_zero_le ha
 have hv:valuesR ⟨28,n,b,t,q⟩=(2*(n:Int),1):=rfl
 have hg:goesB 28=false:=rfl
 have hn:(2*(n:Int)).toNat=2*n+0:=by omega
 have h0:0≤(2*(n:Int)):=by omega
 unfold stepR leafR doesR
 rw[hv,leaves_values (c:=2*n) (a:=0) (b:=1) (by show((118:UInt8),2*(n:Int))=_;simp) rfl rfl]
 simp only[hg,hn,h0]
 cases h:lessP s 118 (2*n+0) with
 |none=>simp
 |some u=>
  have hl:=less_lenR 118 _ s u h
  by_cases hh:u.length+1≤30000
  ·simp[tooHigh,hh,List.replicate]
   try omega
  ·simp[tooHigh,hh]
   try omega
theorem step_29 (a b q:Int) (t:ByteArray) (s:List UInt8) (_hs:s.length≤30000) (ha:0≤a):stepR ⟨29,a,b,t,q⟩ s=leafR ⟨29,a,b,t,q⟩ s:=by
 obtain⟨n,rfl⟩:=Int.eq_ofNat_of_zero_le ha
 have hv:valuesR ⟨29,n,b,t,q⟩=((n:Int),1):=rfl
 have hg:goesB 29=false:=rfl
 have hn:((n:Int)).toNat=n+0:=by omega
 have h0:0≤((n:Int)):=by omega
 unfold stepR leafR doesR
 rw[hv,leaves_values (c:=n) (a:=0) (b:=1) (by show((118:UInt8),(n:Int))=_;simp) rfl rfl]
 simp only[hg,hn,h0]
 cases h:lessP s 118 (n+0) with
 |none=>simp
 |some u=>
  have hl:=less_lenR 118 _ s u h
  by_cases hh:u.length+1≤30000
  ·simp[tooHigh,hh,List.replicate]
   try omega
  ·simp[tooHigh,hh]
   try omega
theorem step_30 (a b q:Int) (t:ByteArray) (s:List UInt8) (_hs:s.length≤30000):stepR ⟨30,a,b,t,q⟩ s=leafR ⟨30,a,b,t,q⟩ s:=by
 have hv:valuesR ⟨30,a,b,t,q⟩=(1,1):=rfl
 have hg:goesB 30=false:=rfl
 unfold stepR leafR doesR
 rw[hv,leaves_values (c:=0) (a:=1) (b:=1) rfl rfl rfl]
 simp only[hg]
 cases h:lessP s 118 1 with
 |none=>simp[h]
 |some u=>
  have hl:=less_lenR 118 1 s u h
  have h2:lessP s 118 (0+1)=some u:=h
  by_cases hh:u.length+1≤30000
  ·simp[h,tooHigh,hh,List.replicate]
   try omega
  ·simp[h,tooHigh,hh]
   try omega
theorem step_31 (a b q:Int) (t:ByteArray) (s:List UInt8) (_hs:s.length≤30000):stepR ⟨31,a,b,t,q⟩ s=leafR ⟨31,a,b,t,q⟩ s:=by
 have hv:valuesR ⟨31,a,b,t,q⟩=(0,1):=rfl
 have hg:goesB 31=false:=rfl
 unfold stepR leafR doesR
 rw[hv,leaves_values (c:=0) (a:=0) (b:=1) rfl rfl rfl]
 simp only[hg]
 cases h:lessP s 118 0 with
 |none=>simp[h]
 |some u=>
  have hl:=less_lenR 118 0 s u h
  have h2:lessP s 118 (0+0)=some u:=h
  by_cases hh:u.length+1≤30000
  ·simp[h,tooHigh,hh,List.replicate]
   try omega
  ·simp[h,tooHigh,hh]
   try omega
theorem step_32 (a b q:Int) (t:ByteArray) (s:List UInt8) (_hs:s.length≤30000):stepR ⟨32,a,b,t,q⟩ s=leafR ⟨32,a,b,t,q⟩ s:=by
 have hv:valuesR ⟨32,a,b,t,q⟩=(1,1):=rfl
 have hg:goesB 32=false:=rfl
 unfold stepR leafR doesR
 rw[hv,leaves_values (c:=0) (a:=1) (b:=1) rfl rfl rfl]
 simp only[hg]
 cases h:lessP s 118 1 with
 |none=>simp[h]
 |some u=>
  have hl:=less_lenR 118 1 s u h
  have h2:lessP s 118 (0+1)=some u:=h
  by_cases hh:u.length+1≤30000
  ·simp[h,tooHigh,hh,List.replicate]
   try omega
  ·simp[h,tooHigh,hh]
   try omega
theorem step_33 (a b q:Int) (t:ByteArray) (s:List UInt8) (_hs:s.length≤30000):stepR ⟨33,a,b,t,q⟩ s=leafR ⟨33,a,b,t,q⟩ s:=by
 have hv:valuesR ⟨33,a,b,t,q⟩=(1,2):=rfl
 have hg:goesB 33=false:=rfl
 unfold stepR leafR doesR
 rw[hv,leaves_values (c:=0) (a:=1) (b:=2) rfl rfl rfl]
 simp only[hg]
 cases h:lessP s 118 1 with
 |none=>simp[h]
 |some u=>
  have hl:=less_lenR 118 1 s u h
  have h2:lessP s 118 (0+1)=some u:=h
  by_cases hh:u.length+2≤30000
  ·simp[h,tooHigh,hh,List.replicate]
   try omega
  ·simp[h,tooHigh,hh,List.replicate]
   try omega
theorem step_34 (a b q:Int) (t:ByteArray) (s:List UInt8) (hs:s.length≤30000):stepR ⟨34,a,b,t,q⟩ s=leafR ⟨34,a,b,t,q⟩ s:=by
 have hv:valuesR ⟨34,a,b,t,q⟩=(0,0):=rfl
 have hg:goesB 34=true:=rfl
 unfold stepR leafR doesR
 rw[hv,leaves_values (c:=0) (a:=0) (b:=0) rfl rfl rfl]
 simp only[hg]
 cases h:lessP s 118 0 with
 |none=>simp[h]
 |some u=>
  have hl:=less_lenR 118 0 s u h
  have h2:lessP s 118 (0+0)=some u:=h
  by_cases hh:u.length+0≤30000
  ·simp[h,tooHigh,List.replicate]
   try omega
  ·simp[h,tooHigh,List.replicate]
   try omega
theorem step_35 (a b q:Int) (t:ByteArray) (s:List UInt8) (hs:s.length≤30000):stepR ⟨35,a,b,t,q⟩ s=leafR ⟨35,a,b,t,q⟩ s:=by
 have hv:valuesR ⟨35,a,b,t,q⟩=(1,0):=rfl
 have hg:goesB 35=true:=rfl
 unfold stepR leafR doesR
 rw[hv,leaves_values (c:=0) (a:=1) (b:=0) rfl rfl rfl]
 simp only[hg]
 cases h:lessP s 118 1 with
 |none=>simp[h]
 |some u=>
  have hl:=less_lenR 118 1 s u h
  have h2:lessP s 118 (0+1)=some u:=h
  by_cases hh:u.length+0≤30000
  ·simp[h,tooHigh,List.replicate]
   try omega
  ·simp[h,tooHigh,List.replicate]
   try omega
theorem step_36 (a b q:Int) (t:ByteArray) (s:List UInt8) (hs:s.length≤30000):stepR ⟨36,a,b,t,q⟩ s=leafR ⟨36,a,b,t,q⟩ s:=by
 have hv:valuesR ⟨36,a,b,t,q⟩=(1,0):=rfl
 have hg:goesB 36=true:=rfl
 unfold stepR leafR doesR
 rw[hv,leaves_values (c:=0) (a:=1) (b:=0) rfl rfl rfl]
 simp only[hg]
 cases h:lessP s 118 1 with
 |none=>simp[h]
 |some u=>
  have hl:=less_lenR 118 1 s u h
  have h2:lessP s 118 (0+1)=some u:=h
  by_cases hh:u.length+0≤30000
  ·simp[h,tooHigh,List.replicate]
   try omega
  ·simp[h,tooHigh,List.replicate]
   try omega
theorem step_37 (a b q:Int) (t:ByteArray) (s:List UInt8) (hs:s.length≤30000):stepR ⟨37,a,b,t,q⟩ s=leafR ⟨37,a,b,t,q⟩ s:=by
 have hv:valuesR ⟨37,a,b,t,q⟩=(1,0):=rfl
 have hg:goesB 37=true:=rfl
 unfold stepR leafR doesR
 rw[hv,leaves_values (c:=0) (a:=1) (b:=0) rfl rfl rfl]
 simp only[hg]
 cases h:lessP s 118 1 with
 |none=>simp[h]
 |some u=>
  have hl:=less_lenR 118 1 s u h
  have h2:lessP s 118 (0+1)=some u:=h
  by_cases hh:u.length+0≤30000
  ·simp[h,tooHigh,List.replicate]
   try omega
  ·simp[h,tooHigh,List.replicate]
   try omega
theorem step_46 (a b q:Int) (t:ByteArray) (s:List UInt8) (_hs:s.length≤30000) (ha:0≤a):stepR ⟨46,a,b,t,q⟩ s=leafR ⟨46,a,b,t,q⟩ s:=by
 obtain⟨n,rfl⟩:=Int.eq_ofNat_of_zero_le ha
 have hv:valuesR ⟨46,n,b,t,q⟩=((n:Int)+1,1):=rfl
 have hg:goesB 46=false:=rfl
 have hn:((n:Int)+1).toNat=n+1:=by omega
 have h0:0≤((n:Int)+1):=by omega
 unfold stepR leafR doesR
 rw[hv,leaves_values (c:=n) (a:=1) (b:=1) (by show((118:UInt8),(n:Int))=_;simp) rfl rfl]
 simp only[hg,hn,h0]
 cases h:lessP s 118 (n+1) with
 |none=>simp
 |some u=>
  have hl:=less_lenR 118 _ s u h
  by_cases hh:u.length+1≤30000
  ·simp[tooHigh,hh,List.replicate]
   try omega
  ·simp[tooHigh,hh]
   try omega
theorem step_47 (a b q:Int) (t:ByteArray) (s:List UInt8) (_hs:s.length≤30000) (ha:0≤a):stepR ⟨47,a,b,t,q⟩ s=leafR ⟨47,a,b,t,q⟩ s:=by
 obtain⟨n,rfl⟩:=Int.eq_ofNat_of_zero_le ha
 have hv:valuesR ⟨47,n,b,t,q⟩=((n:Int),1):=rfl
 have hg:goesB 47=false:=rfl
 have hn:((n:Int)).toNat=n+0:=by omega
 have h0:0≤((n:Int)):=by omega
 unfold stepR leafR doesR
 rw[hv,leaves_values (c:=n) (a:=0) (b:=1) (by show((118:UInt8),(n:Int))=_;simp) rfl rfl]
 simp only[hg,hn,h0]
 cases h:lessP s 118 (n+0) with
 |none=>simp
 |some u=>
  have hl:=less_lenR 118 _ s u h
  by_cases hh:u.length+1≤30000
  ·simp[tooHigh,hh,List.replicate]
   try omega
  ·simp[tooHigh,hh]
   try omega
theorem step_48 (a b q:Int) (t:ByteArray) (s:List UInt8) (hs:s.length≤30000) (ha:0≤a):stepR ⟨48,a,b,t,q⟩ s=leafR ⟨48,a,b,t,q⟩ s:=by
 obtain⟨n,rfl⟩:=Int.eq_ofNat_of_zero_le ha
 have hv:valuesR ⟨48,n,b,t,q⟩=((n:Int)+1,0):=rfl
 have hg:goesB 48=false:=rfl
 have hn:((n:Int)+1).toNat=n+1:=by omega
 have h0:0≤((n:Int)+1):=by omega
 unfold stepR leafR doesR
 rw[hv,leaves_values (c:=n) (a:=1) (b:=0) (by show((118:UInt8),(n:Int))=_;simp) rfl rfl]
 simp only[hg,hn,h0]
 cases h:lessP s 118 (n+1) with
 |none=>simp
 |some u=>
  have hl:=less_lenR 118 _ s u h
  by_cases hh:u.length+0≤30000
  ·simp[tooHigh,List.replicate]
   try omega
  ·simp[tooHigh,List.replicate]
   try omega
theorem step_49 (a b q:Int) (t:ByteArray) (s:List UInt8) (hs:s.length≤30000) (ha:0≤a):stepR ⟨49,a,b,t,q⟩ s=leafR ⟨49,a,b,t,q⟩ s:=by
 obtain⟨n,rfl⟩:=Int.eq_ofNat_of_zero_le ha
 have hv:valuesR ⟨49,n,b,t,q⟩=((n:Int),0):=rfl
 have hg:goesB 49=false:=rfl
 have hn:((n:Int)).toNat=n+0:=by omega
 have h0:0≤((n:Int)):=by omega
 unfold stepR leafR doesR
 rw[hv,leaves_values (c:=n) (a:=0) (b:=0) (by show((118:UInt8),(n:Int))=_;simp) rfl rfl]
 simp only[hg,hn,h0]
 cases h:lessP s 118 (n+0) with
 |none=>simp
 |some u=>
  have hl:=less_lenR 118 _ s u h
  by_cases hh:u.length+0≤30000
  ·simp[tooHigh,List.replicate]
   try omega
  ·simp[tooHigh,List.replicate]
   try omega
theorem step_50 (a b q:Int) (t:ByteArray) (s:List UInt8) (_hs:s.length≤30000):stepR ⟨50,a,b,t,q⟩ s=leafR ⟨50,a,b,t,q⟩ s:=by
 have hv:valuesR ⟨50,a,b,t,q⟩=(1,0):=rfl
 have hg:goesB 50=false:=rfl
 unfold stepR leafR doesR
 rw[hv,leaves_values (c:=0) (a:=1) (b:=0) rfl rfl rfl]
 simp only[hg]
 cases h:lessP s 118 1 with
 |none=>simp[h]
 |some u=>
  have hl:=less_lenR 118 1 s u h
  have h2:lessP s 118 (0+1)=some u:=h
  by_cases hh:u.length+0≤30000
  ·simp[h,tooHigh,List.replicate]
   try omega
  ·simp[h,tooHigh,List.replicate]
   try omega
theorem less_0 (s:List UInt8) (c:UInt8):lessP s c 0=some s:=by rw[lessP]
theorem step_38 (a b q:Int) (t:ByteArray) (s:List UInt8) (_hs:s.length≤30000):stepR ⟨38,a,b,t,q⟩ s=leafR ⟨38,a,b,t,q⟩ s:=by
 have hg:goesB 38=false:=rfl
 have ht:(formOf 38).takes.reverse=[]:=rfl
 have hl:(formOf 38).lays=[112]:=rfl
 have hv:valuesR ⟨38,a,b,t,q⟩=(-1,0):=rfl
 have hc:countedP ⟨38,a,b,t,q⟩=(118,0):=rfl
 unfold stepR leafR doesR leavesP
 rw[hv,hc]
 simp only[hg,ht,hl,Int.toNat_zero,less_0,takesP,laysP]
 by_cases hh:30000<s.length+1
 ·simp[tooHigh,hh]
 ·simp[tooHigh,hh]
theorem step_39 (a b q:Int) (t:ByteArray) (s:List UInt8) (_hs:s.length≤30000):stepR ⟨39,a,b,t,q⟩ s=leafR ⟨39,a,b,t,q⟩ s:=by
 have hg:goesB 39=false:=rfl
 have ht:(formOf 39).takes.reverse=[]:=rfl
 have hl:(formOf 39).lays=[112]:=rfl
 have hv:valuesR ⟨39,a,b,t,q⟩=(-1,0):=rfl
 have hc:countedP ⟨39,a,b,t,q⟩=(118,0):=rfl
 unfold stepR leafR doesR leavesP
 rw[hv,hc]
 simp only[hg,ht,hl,Int.toNat_zero,less_0,takesP,laysP]
 by_cases hh:30000<s.length+1
 ·simp[tooHigh,hh]
 ·simp[tooHigh,hh]
theorem step_40 (a b q:Int) (t:ByteArray) (s:List UInt8) (_hs:s.length≤30000):stepR ⟨40,a,b,t,q⟩ s=leafR ⟨40,a,b,t,q⟩ s:=by
 have hg:goesB 40=false:=rfl
 have ht:(formOf 40).takes.reverse=[]:=rfl
 have hl:(formOf 40).lays=[112]:=rfl
 have hv:valuesR ⟨40,a,b,t,q⟩=(-1,0):=rfl
 have hc:countedP ⟨40,a,b,t,q⟩=(118,0):=rfl
 unfold stepR leafR doesR leavesP
 rw[hv,hc]
 simp only[hg,ht,hl,Int.toNat_zero,less_0,takesP,laysP]
 by_cases hh:30000<s.length+1
 ·simp[tooHigh,hh]
 ·simp[tooHigh,hh]
theorem step_41 (a b q:Int) (t:ByteArray) (s:List UInt8) (hs:s.length≤30000):stepR ⟨41,a,b,t,q⟩ s=leafR ⟨41,a,b,t,q⟩ s:=by
 have hg:goesB 41=false:=rfl
 have ht:(formOf 41).takes.reverse=[118]:=rfl
 have hl:(formOf 41).lays=[112]:=rfl
 have hv:valuesR ⟨41,a,b,t,q⟩=(-1,0):=rfl
 have hc:countedP ⟨41,a,b,t,q⟩=(118,0):=rfl
 unfold stepR leafR doesR leavesP
 rw[hv,hc]
 simp only[hg,ht,hl,Int.toNat_zero,less_0]
 cases h:lessP s 118 1 with
 |none=>simp[takesP,h]
 |some u=>
  have h2:=less_lenR 118 1 s u h
  have h3:¬30000<u.length+1:=by omega
  simp[takesP,laysP,h,tooHigh,h3]
theorem step_42 (a b q:Int) (t:ByteArray) (s:List UInt8) (hs:s.length≤30000):stepR ⟨42,a,b,t,q⟩ s=leafR ⟨42,a,b,t,q⟩ s:=by
 have hg:goesB 42=false:=rfl
 have ht:(formOf 42).takes.reverse=[118,118]:=rfl
 have hl:(formOf 42).lays=[112]:=rfl
 have hv:valuesR ⟨42,a,b,t,q⟩=(-1,0):=rfl
 have hc:countedP ⟨42,a,b,t,q⟩=(118,0):=rfl
 unfold stepR leafR doesR leavesP
 rw[hv,hc]
 simp only[hg,ht,hl,Int.toNat_zero,less_0]
 have h1:lessP s 118 2=match lessP s 118 1 with
  |none=>none
  |some t=>lessP t 118 1:=less_add 118 1 1 s
 cases h:lessP s 118 1 with
 |none=>simp[takesP,h,h1]
 |some u=>
  cases h':lessP u 118 1 with
  |none=>simp[takesP,h,h1,h']
  |some v=>
   have h2:=less_lenR 118 1 s u h
   have h4:=less_lenR 118 1 u v h'
   have h3:¬30000<v.length+1:=by omega
   simp[takesP,laysP,h,h1,h',tooHigh,h3]
theorem step_43 (a b q:Int) (t:ByteArray) (s:List UInt8) (hs:s.length≤30000) (h63:63 ∉ s):stepR ⟨43,a,b,t,q⟩ s=leafR ⟨43,a,b,t,q⟩ s:=by
 have hg:goesB 43=false:=rfl
 have ht:(formOf 43).takes.reverse=[63]:=rfl
 have hl:(formOf 43).lays=[112]:=rfl
 have hv:valuesR ⟨43,a,b,t,q⟩=(-1,0):=rfl
 have hc:countedP ⟨43,a,b,t,q⟩=(118,0):=rfl
 unfold stepR leafR doesR leavesP
 rw[hv,hc]
 simp only[hg,ht,hl,Int.toNat_zero,less_0]
 cases s with
 |nil=>simp[takesP,lessP]
 |cons x r=>
  have hx:x≠63:=fun e=>h63 (by rw[e];exact List.mem_cons_self ..)
  have h3:¬30000<r.length+1:=by simp at hs;omega
  by_cases e1:x=118
  ·subst e1
   simp[takesP,laysP,lessP,tooHigh,h3]
  ·by_cases e2:x=112
   ·subst e2
    simp[takesP,laysP,lessP,tooHigh,h3]
   ·simp[takesP,lessP,e1,e2,hx]
theorem step_44 (a b q:Int) (t:ByteArray) (s:List UInt8) (hs:s.length≤30000):stepR ⟨44,a,b,t,q⟩ s=leafR ⟨44,a,b,t,q⟩ s:=by
 have hg:goesB 44=false:=rfl
 have ht:(formOf 44).takes.reverse=[112]:=rfl
 have hl:(formOf 44).lays=[112,118]:=rfl
 have hv:valuesR ⟨44,a,b,t,q⟩=(-1,0):=rfl
 have hc:countedP ⟨44,a,b,t,q⟩=(118,0):=rfl
 unfold stepR leafR doesR leavesP
 rw[hv,hc]
 simp only[hg,ht,hl,Int.toNat_zero,less_0]
 cases h:lessP s 112 1 with
 |none=>simp[takesP,h]
 |some u=>
  have h2:=less_lenR 112 1 s u h
  have h5:s=112::u:=by
   cases s with
   |nil=>rw[lessP] at h;cases h
   |cons x r=>
    rw[lessP] at h
    split at h
    ·rename_i e
     rw[lessP] at h
     have e2:x=112:=by simpa using e
     rw[e2,Option.some.inj h]
    ·cases h
  have h3:¬30000<u.length+1:=by omega
  subst h5
  by_cases hh:30000<u.length+1+1
  ·simp[takesP,laysP,h,tooHigh,h3,hh]
  ·simp[takesP,laysP,h,tooHigh,h3,hh]
theorem step_45 (a b q:Int) (t:ByteArray) (s:List UInt8) (hs:s.length≤30000):stepR ⟨45,a,b,t,q⟩ s=leafR ⟨45,a,b,t,q⟩ s:=by
 have hg:goesB 45=false:=rfl
 have ht:(formOf 45).takes.reverse=[118,112]:=rfl
 have hl:(formOf 45).lays=[]:=rfl
 have hv:valuesR ⟨45,a,b,t,q⟩=(-1,0):=rfl
 have hc:countedP ⟨45,a,b,t,q⟩=(118,0):=rfl
 unfold stepR leafR doesR leavesP
 rw[hv,hc]
 simp only[hg,ht,hl,Int.toNat_zero,less_0]
 cases h:lessP s 118 1 with
 |none=>simp[takesP,h]
 |some u=>
  cases h':lessP u 112 1 with
  |none=>simp[takesP,h,h']
  |some v=>
   have h2:=less_lenR 118 1 s u h
   have h4:=less_lenR 112 1 u v h'
   have h3:¬30000<v.length:=by omega
   simp[takesP,laysP,h,h',tooHigh,h3]
theorem step_51 (a b q:Int) (t:ByteArray) (s:List UInt8) (hs:s.length≤30000):stepR ⟨51,a,b,t,q⟩ s=leafR ⟨51,a,b,t,q⟩ s:=by
 have hg:goesB 51=false:=rfl
 have ht:(formOf 51).takes.reverse=[118]:=rfl
 have hl:(formOf 51).lays=[116]:=rfl
 have hv:valuesR ⟨51,a,b,t,q⟩=(-1,0):=rfl
 have hc:countedP ⟨51,a,b,t,q⟩=(118,0):=rfl
 unfold stepR leafR doesR leavesP
 rw[hv,hc]
 simp only[hg,ht,hl,Int.toNat_zero,less_0]
 cases h:lessP s 118 1 with
 |none=>simp[takesP,h]
 |some u=>
  have h2:=less_lenR 118 1 s u h
  have h3:¬30000<u.length+1:=by omega
  simp[takesP,laysP,h,tooHigh,h3]
theorem step_52 (a b q:Int) (t:ByteArray) (s:List UInt8) (hs:s.length≤30000):stepR ⟨52,a,b,t,q⟩ s=leafR ⟨52,a,b,t,q⟩ s:=by
 have hg:goesB 52=true:=rfl
 have ht:(formOf 52).takes.reverse=[116]:=rfl
 have hl:(formOf 52).lays=[116,118,118]:=rfl
 have hv:valuesR ⟨52,a,b,t,q⟩=(-1,0):=rfl
 have hc:countedP ⟨52,a,b,t,q⟩=(118,0):=rfl
 unfold stepR leafR doesR leavesP
 rw[hv,hc]
 simp only[hg,ht,hl,Int.toNat_zero,less_0]
 cases h:lessP s 116 1 with
 |none=>simp[takesP,h]
 |some u=>
  have h2:=less_lenR 116 1 s u h
  have h5:s=116::u:=by
   cases s with
   |nil=>rw[lessP] at h;cases h
   |cons x r=>
    rw[lessP] at h
    split at h
    ·rename_i e
     rw[lessP] at h
     have e2:x=116:=by simpa using e
     rw[e2,Option.some.inj h]
    ·cases h
  have h3:¬30000<u.length+1:=by omega
  have h6:¬30000<u.length:=by omega
  subst h5
  by_cases hh:30000<u.length+1+1
  ·simp[takesP,laysP,h,tooHigh,h3,hh,h6]
   omega
  ·by_cases hk:30000<u.length+1+1+1
   ·simp[takesP,laysP,h,tooHigh,h3,hh,hk,h6]
   ·simp[takesP,laysP,h,tooHigh,h3,hh,hk,h6]
theorem step_53 (a b q:Int) (t:ByteArray) (s:List UInt8) (hs:s.length≤30000) (_ha:0≤a):stepR ⟨53,a,b,t,q⟩ s=leafR ⟨53,a,b,t,q⟩ s:=by
 have hg:goesB 53=false:=rfl
 have ht:(formOf 53).takes.reverse=[]:=rfl
 have hl:(formOf 53).lays=[]:=rfl
 have hv:valuesR ⟨53,a,b,t,q⟩=(-1,0):=rfl
 have hc:countedP ⟨53,a,b,t,q⟩=(116,a):=rfl
 unfold stepR leafR doesR leavesP
 rw[hv,hc]
 simp only[hg,ht,hl]
 cases h:lessP s 116 a.toNat with
 |none=>simp
 |some u=>
  have h2:=less_lenR 116 a.toNat s u h
  have h3:¬30000<u.length:=by omega
  simp[takesP,laysP,tooHigh,h3]
theorem step_26 (a b q:Int) (t:ByteArray) (s:List UInt8) (hs:s.length≤30000) (ha:a=2∨a=3) (hb:b=0∨b=1∨b=2∨b=3):stepR ⟨26,a,b,t,q⟩ s=leafR ⟨26,a,b,t,q⟩ s:=by
 have key:∀k:Nat,countedP ⟨26,a,b,t,q⟩=(118,(k:Int))→valuesR ⟨26,a,b,t,q⟩=((k:Int),1)→1≤k→stepR ⟨26,a,b,t,q⟩ s=leafR ⟨26,a,b,t,q⟩ s:=by
  intro k hc hv h1
  have hg:goesB 26=false:=rfl
  unfold stepR leafR doesR
  rw[hv,leaves_values (c:=k) (a:=0) (b:=1) hc rfl rfl]
  have h0:0≤(k:Int):=by omega
  simp only[hg,h0,Int.toNat_natCast,Nat.add_zero]
  cases h:lessP s 118 k with
  |none=>simp
  |some u=>
   have hl:=less_lenR 118 _ s u h
   have hh:u.length+1≤30000:=by omega
   simp[tooHigh,hh,List.replicate]
 rcases ha with rfl|rfl<;>rcases hb with rfl|rfl|rfl|rfl
 ·exact key 3 rfl rfl (by decide)
 ·exact key 2 rfl rfl (by decide)
 ·exact key 2 rfl rfl (by decide)
 ·exact key 1 rfl rfl (by decide)
 ·exact key 4 rfl rfl (by decide)
 ·exact key 3 rfl rfl (by decide)
 ·exact key 3 rfl rfl (by decide)
 ·exact key 2 rfl rfl (by decide)
theorem step_leaf (x:Ci) (h:1≤x.op∧x.op≤53) (s:List UInt8) (hs:s.length≤30000) (h63:63 ∉ s) (hc:0≤(countedP x).2) (h26:x.op=26→(x.a=2∨x.a=3)∧(x.b=0∨x.b=1∨x.b=2∨x.b=3)):stepR x s=leafR x s:=by
 obtain⟨k,hk⟩:=op_53 h
 obtain⟨op,a,b,t,q⟩:=x
 simp only at hk h26
 subst hk
 match k with
 |⟨0,_⟩=>exact step_1 a b q t s hs
 |⟨1,_⟩=>exact step_2 a b q t s hs
 |⟨2,_⟩=>exact step_3 a b q t s hs
 |⟨3,_⟩=>exact step_4 a b q t s hs
 |⟨4,_⟩=>exact step_5 a b q t s hs
 |⟨5,_⟩=>exact step_6 a b q t s hs
 |⟨6,_⟩=>exact step_7 a b q t s hs
 |⟨7,_⟩=>exact step_8 a b q t s hs
 |⟨8,_⟩=>exact step_9 a b q t s hs
 |⟨9,_⟩=>exact step_10 a b q t s hs
 |⟨10,_⟩=>exact step_11 a b q t s hs
 |⟨11,_⟩=>exact step_12 a b q t s hs
 |⟨12,_⟩=>exact step_13 a b q t s hs
 |⟨13,_⟩=>exact step_14 a b q t s hs
 |⟨14,_⟩=>exact step_15 a b q t s hs
 |⟨15,_⟩=>exact step_16 a b q t s hs
 |⟨16,_⟩=>exact step_17 a b q t s hs
 |⟨17,_⟩=>exact step_18 a b q t s hs
 |⟨18,_⟩=>exact step_19 a b q t s hs
 |⟨19,_⟩=>exact step_20 a b q t s hs
 |⟨20,_⟩=>exact step_21 a b q t s hs
 |⟨21,_⟩=>exact step_22 a b q t s hs
 |⟨22,_⟩=>exact step_23 a b q t s hs
 |⟨23,_⟩=>exact step_24 a b q t s hs
 |⟨24,_⟩=>exact step_25 a b q t s hs
 |⟨25,_⟩=>exact step_26 a b q t s hs (h26 rfl).1 (h26 rfl).2
 |⟨26,_⟩=>exact step_27 a b q t s hs (by have hc:0≤a:=hc;omega)
 |⟨27,_⟩=>exact step_28 a b q t s hs (by have hc:0≤2*a:=hc;omega)
 |⟨28,_⟩=>exact step_29 a b q t s hs (by have hc:0≤a:=hc;omega)
 |⟨29,_⟩=>exact step_30 a b q t s hs
 |⟨30,_⟩=>exact step_31 a b q t s hs
 |⟨31,_⟩=>exact step_32 a b q t s hs
 |⟨32,_⟩=>exact step_33 a b q t s hs
 |⟨33,_⟩=>exact step_34 a b q t s hs
 |⟨34,_⟩=>exact step_35 a b q t s hs
 |⟨35,_⟩=>exact step_36 a b q t s hs
 |⟨36,_⟩=>exact step_37 a b q t s hs
 |⟨37,_⟩=>exact step_38 a b q t s hs
 |⟨38,_⟩=>exact step_39 a b q t s hs
 |⟨39,_⟩=>exact step_40 a b q t s hs
 |⟨40,_⟩=>exact step_41 a b q t s hs
 |⟨41,_⟩=>exact step_42 a b q t s hs
 |⟨42,_⟩=>exact step_43 a b q t s hs h63
 |⟨43,_⟩=>exact step_44 a b q t s hs
 |⟨44,_⟩=>exact step_45 a b q t s hs
 |⟨45,_⟩=>exact step_46 a b q t s hs (by have hc:0≤a:=hc;omega)
 |⟨46,_⟩=>exact step_47 a b q t s hs (by have hc:0≤a:=hc;omega)
 |⟨47,_⟩=>exact step_48 a b q t s hs (by have hc:0≤a:=hc;omega)
 |⟨48,_⟩=>exact step_49 a b q t s hs (by have hc:0≤a:=hc;omega)
 |⟨49,_⟩=>exact step_50 a b q t s hs
 |⟨50,_⟩=>exact step_51 a b q t s hs
 |⟨51,_⟩=>exact step_52 a b q t s hs
 |⟨52,_⟩=>exact step_53 a b q t s hs (by have hc:0≤a:=hc;omega)
end Go.Proofs.YtagnicbknbmccaaGreatDoor
