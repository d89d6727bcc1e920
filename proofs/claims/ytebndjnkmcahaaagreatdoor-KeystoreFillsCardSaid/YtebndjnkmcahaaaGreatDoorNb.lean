/- joined of several texts; own work; no statement of the seat is proved but in the last -/
import Derived.Test.YtebndjnkmcahaaaGreatDoorKp
section
section
namespace Go.Proofs.YtebndjnkmcahaaaGreatDoor
set_option linter.unusedSimpArgs false
set_option linter.unusedVariables false
open Go Go.Abs Go.RowKit
theorem rq:∀a b:List AV,eJ (a++b)=(eJ a&&eJ b)
 | [],b=>rfl
 | x::a,b=>by
  simp only [List.cons_append,eJ,rq a b]
  cases oneC x<;>rfl
theorem rr:∀(vs cs pre suf:List AV),cs.length=vs.length→cA (pre++(cs++suf)) pre.length vs=pre++(vs++suf)
 | [],[],pre,suf,_=>by simp [cA]
 | [],c::cs,pre,suf,h=>by simp at h
 | v::vs,[],pre,suf,h=>by simp at h
 | v::vs,c::cs,pre,suf,h=>by
  rw [cA]
  have e:(pre++(c::cs++suf)).set pre.length v=(pre++[v])++(cs++suf):=by simp
  rw [e,show pre.length+1=(pre++[v]).length by simp,rr vs cs (pre++[v]) suf (by simpa using h)]
  simp
def plC (x:Dvp):List AV:=dvC x++[.p (.v (.slice none 0 0))]
theorem mU (x:Dvp):∃cs:List PV,plC x=cs.map .p:=by
 obtain⟨cs,he⟩:=jq x
 exact⟨cs++[.v (.slice none 0 0)],by unfold plC;rw [he];simp⟩
theorem wZ (x:Dvp):(plC x).length=33:=rfl
theorem EU:pvs z51=plC dv0:=rfl
theorem EV (x:Dvp):(plC x).take 32=dvC x:=rfl
theorem JD (x y:Dvp):cA (plC x) 0 (dvC y)=plC y:=rr (dvC y) (dvC x) [] [.p (.v (.slice none 0 0))] rfl
theorem JE (x y:Dvp):cA (plC x) 0 (plC y)=plC y:=by
 have:=kR (plC y) (plC x) [] (by rw [wZ,wZ])
 simpa using this
theorem JF (h:List (Nat×Option Blk)) (x:Dvp):i7 h (plC x):=by obtain⟨cs,he⟩:=mU x;rw [he];exact kQ h cs
theorem JG (h:List (Nat×Option Blk)) (x:Dvp):fzL h (plC x)=plC x:=by obtain⟨cs,he⟩:=mU x;rw [he];exact mA h cs
theorem JH (h:ba) (S:List Nat) (σ:Nat→Nat) (x:Dvp):ai h S σ (plC x) (plC x):=by obtain⟨cs,he⟩:=mU x;rw [he];exact aW h S σ cs
@[simp] theorem HN (T:List Nat) (x:Dvp):an T (plC x):=by obtain⟨cs,he⟩:=mU x;rw [he];exact a8 T cs
theorem JI (τ:Nat→Nat) (x:Dvp):eG τ (plC x)=plC x:=by obtain⟨cs,he⟩:=mU x;rw [he];exact eM τ cs
theorem JJ (x:Dvp):cG (plC x)=[]:=by obtain⟨cs,he⟩:=mU x;rw [he];exact mL cs
theorem JK (x:Dvp):(plC x).take 33=plC x:=rfl
theorem JL (x:Dvp):fM (plC x) (plC x):=cD _
theorem HO (x:Dvp):eJ (plC x)=true:=by unfold plC;rw [rq,BB];rfl
attribute [go_sem] HO wZ EU EV JD JE JF JG JH HN JI JJ JK JL
theorem Cs (n:Int):iL (fN n)=0:=by
 have h7:=fP (bc .i64 n 7) 1 (by decide) (by decide)
 have h8:=fP (bc .i64 n 8) 1 (by decide) (by decide)
 have hw:IntKind.i64.wrap (2+cu .i64 (bc .i64 n 8) 1)=2+cu .i64 (bc .i64 n 8) 1:=ab (by omega) (by omega)
 have hp:512≤(fN n).ps∧(fN n).ps≤8192:=by
  show 512≤uQ _∧uQ _≤8192
  unfold uQ
  split
  ·decide
  ·split
   ·decide
   ·split<;>decide
 have h4:gV .i64 1 2=4:=by decide
 have hah:(fN n).ah=2:=rfl
 have haf:(fN n).af=cu .i64 (bc .i64 n 7) 1:=rfl
 have hat:(fN n).ato=2+cu .i64 (bc .i64 n 8) 1:=hw
 have hng:¬gj (fN n):=by
  unfold gj
  rw [hah,haf,hat,h4]
  omega
 have hc:(fN n).ce=([[111,110,101],[116,119,111]]:List (List UInt8)).take (1+cu .i64 (bc .i64 n 9) 1).toNat:=rfl
 unfold iL
 rw [if_neg hng,if_neg (by rw [hc,List.length_take];simp;omega),if_pos]
 rw [List.all_eq_true]
 intro b hb
 rw [hc] at hb
 have:=List.mem_of_mem_take hb
 simp only [List.mem_cons,List.not_mem_nil,or_false] at this
 rcases this with rfl|rfl<;>decide
set_option maxHeartbeats 1000000 in
theorem EW (n:Int):FPure Tryz.prog 11 [.i n] (.agg (plC (iW (eP (fN n) (cu .i64 n 7))))):=by
 refine en Tryz.func11 Tryz.ntmps11 Tryz.results11 [0,2,3] ?_;intro c hP h0 hE kK
 simp only [go_sem,hP]
 refine aa kK (by exact rl n) ?_
 have he:=Cs n
 have hsm:∀b,b∈(fN n).ce→b.length<1000000000:=by
  intro b hb
  have hc:(fN n).ce=([[111,110,101],[116,119,111]]:List (List UInt8)).take (1+cu .i64 (bc .i64 n 9) 1).toNat:=rfl
  rw [hc] at hb
  have:=List.mem_of_mem_take hb
  simp only [List.mem_cons,List.not_mem_nil,or_false] at this
  rcases this with rfl|rfl<;>decide
 generalize fN n=f at *
 have hok:=gM he
 have hfl:(bV f.ps 2).bs.length<1000000000:=by
  have hb:512≤f.ps∧f.ps≤8192:=by have:=hok.1;unfold gj at this;omega
  rw [(mI hb.1 hb.2).2.1,List.length_replicate]
  omega
 simp only [go_sem,hP]
 refine aa kK (by exact HA f (by omega) hsm) ?_
 have hb7:=fP n 7 (by decide) (by decide)
 simp only [go_sem,hP]
 refine aa kK (by exact Ez (i9 f) (cu .i64 n 7) (-1) (pk he hfl)) ?_
 rw [pl he (by omega) (by omega)]
 generalize eP f (cu .i64 n 7)=d at *
 simp only [go_sem,hP]
end Go.Proofs.YtebndjnkmcahaaaGreatDoor
end
section
namespace Go.Proofs.YtebndjnkmcahaaaGreatDoor
set_option linter.unusedSimpArgs false
set_option linter.unusedVariables false
open Go Go.Abs Go.RowKit
def bgB (n:UInt64) (s:Nat):Nat→List UInt8
 | 0=>[]
 | k+1=>bgB n s k++[(eH n (8*(s-1-k))).toUInt8]
theorem iQ (n:UInt64) (s k:Nat):(bgB n s k).length=k:=by
 induction k with
 | zero=>rfl
 | succ k ih=>simp [bgB,ih]
theorem ym (n:UInt64) (s:Nat):∀k i,i<k→(bgB n s k).getD i 0=(eH n (8*(s-1-i))).toUInt8
 | 0,i,h=>by omega
 | k+1,i,h=>by
  simp only [bgB,dj,iQ]
  split
  ·exact ym n s k i ‹_›
  ·obtain rfl:i=k:=by omega
   simp
theorem JM (n:UInt64):∀k,k≤8→bgB n 8 k=cr n k
 | 0,_=>rfl
 | k+1,h=>by
  simp only [bgB,cr,JM n k (by omega),show 8*(8-1-k)=56-8*k from by omega]
theorem yn (n:UInt64) (s:Nat) (h8:s≤8) (hn:n.toNat<2^(8*s)):∀k,k≤s→(av (bgB n s s) k).toNat=n.toNat/2^(8*(s-k))
 | 0,_=>by
  simp only [av,Nat.sub_zero]
  rw [Nat.div_eq_of_lt hn];rfl
 | k+1,h=>by
  rw [gv _ _ (by omega),yn n s h8 hn k (by omega),ym n s s k (by omega)]
  simp only [eH]
  have hw:=n.toNat_lt
  rw [UInt64.toNat_toUInt8,UInt64.toNat_ofNat']
  have e:8*(s-k)=8*(s-(k+1))+8:=by omega
  have e':8*(s-1-k)=8*(s-(k+1)):=by omega
  rw [e',e,Nat.pow_add]
  generalize hd:n.toNat/2^(8*(s-(k+1)))=d
  have hdl:d<2^64:=by rw [← hd];exact Nat.lt_of_le_of_lt (Nat.div_le_self _ _) hw
  rw [Nat.mod_eq_of_lt hdl,←Nat.div_div_eq_div_mul,hd]
  omega
theorem F5 (n:UInt64) (s:Nat) (h8:s≤8) (hn:n.toNat<2^(8*s)):av (bgB n s s) s=n:=by
 apply UInt64.toNat_inj.1
 rw [yn n s h8 hn s (Nat.le_refl _)];simp
def szN (n:UInt64):Nat:=if n.toNat<24 then 0 else if n.toNat<256 then 1 else if n.toNat<65536 then 2 else if n.toNat<4294967296 then 4 else 8
def loN (n:UInt64):UInt8:=if n.toNat<24 then n.toUInt8 else if n.toNat<256 then 24 else if n.toNat<65536 then 25 else if n.toNat<4294967296 then 26 else 27
def hdB (m:UInt8) (n:UInt64):List UInt8:=(m+loN n)::bgB n (szN n) (szN n)
theorem bM (m:UInt8) (n:UInt64):(hdB m n).length=1+szN n:=by simp [hdB,iQ];omega
theorem gl (n:UInt64):szN n≤8:=by (unfold szN;repeat' split);all_goals omega
theorem yo (n:UInt64) (h:szN n≠0):n.toNat<2^(8*szN n):=by
 have:=n.toNat_lt
 unfold szN at *
 repeat' split
 all_goals first|omega|(simp_all;try omega)
inductive Itm where
 | u (n:UInt64)
 | d (s:List UInt8)
 | t (s:List UInt8)
 | m (n:UInt64)
 | b (v:Bool)
def bN (v:Bool):UInt64:=if v then 1 else 0
def Itm.kd:Itm→Int
 | .u _=>1 | .d _=>3 | .t _=>4 | .m _=>6 | .b _=>7
def Itm.nu:Itm→UInt64
 | .u n=>n | .d _=>0 | .t _=>0 | .m n=>n | .b v=>bN v
def Itm.da:Itm→List UInt8
 | .u _=>[] | .d s=>s | .t s=>s | .m _=>[] | .b _=>[]
def dg (x:Itm):List AV:=[.i x.kd,.w x.nu,sv x.da]
def cH (x:Itm):List PV:=[.v (.int .i64 x.kd),wd x.nu,.v (.string ⟨x.da.toArray⟩)]
def bD:Itm→List UInt8
 | .u n=>hdB 0 n
 | .d s=>hdB 64 (UInt64.ofNat s.length)++s
 | .t s=>hdB 96 (UInt64.ofNat s.length)++s
 | .m n=>hdB 160 n
 | .b v=>[if v then 245 else 244]
def aO (l:List Itm):List PV:=l.flatMap cH
def bX (l:List Itm):List AV:=(aO l).map .p
def bP (l:List Itm):List UInt8:=l.flatMap bD
attribute [go_sem] dg
theorem ii (l:List Itm):(aO l).length=l.length*3:=by
 induction l with
 | nil=>rfl
 | cons p l ih=>simp only [aO,List.flatMap_cons,List.length_append,List.length_cons] at ih ⊢;rw [ih];simp [cH];omega
theorem gm (l:List Itm):(bX l).length=l.length*3:=by unfold bX;rw [List.length_map,ii]
theorem pJ (l l':List Itm):bX l++bX l'=bX (l++l'):=by simp [bX,aO]
theorem ij (h:ba) (S:List Nat) (σ:Nat→Nat) (l:List Itm):ai h S σ (bX l) (bX l):=aW h S σ _
theorem bJ (l:List Itm) (i:Nat) (h:i<l.length):(aO l).drop (i*3)=cH (l.getD i (.b false))++aO (l.drop (i+1)):=by
 induction l generalizing i with
 | nil=>simp at h
 | cons p l ih =>
  cases i with
  | zero=>simp [aO]
  | succ i =>
   have:=ih i (by simpa using h)
   have e:(aO (p::l)).drop ((i+1)*3)=(aO l).drop (i*3):=by
    rw [show aO (p::l)=cH p++aO l from by simp [aO],show (i+1)*3=(cH p).length+i*3 from by simp [cH];omega,List.drop_length_add_append]
   rw [e,this]
   simp
theorem eA (l:List Itm) (i:Nat) (h:i<l.length):bP (l.take (i+1))=bP (l.take i)++bD (l.getD i (.b false)):=by
 rw [List.take_add_one,show l[i]?=some (l.getD i (.b false)) from by simp [List.getD_eq_getElem?_getD,h]]
 simp [bP]
theorem gP (x:Itm):(bD x).length≤9+x.da.length:=by
 cases x<;>simp only [bD,Itm.da,List.length_append,bM,List.length_cons,List.length_nil]<;>first|omega|(have:=gl (UInt64.ofNat (by assumption:List UInt8).length);omega)|(rename_i n;have:=gl n;omega)
end Go.Proofs.YtebndjnkmcahaaaGreatDoor
end
end
section
namespace Go.Abs
set_option linter.unusedSimpArgs false
set_option linter.unusedVariables false
open Go Go.RowKit
theorem Ct {c:Ctx} {ρ:am} {F:aA} {st:AS} {a:Act} {w:World} (t:TypeId) (hc:Conc c ρ F st a w):Conc c ρ F (kp t st) a w:=by
 obtain⟨n,sl,hp,nx⟩:=st
 have hn:ρ nx=none:=hc.fresh nx (Nat.le_refl _)
 have hg:∀i,hget ((nx,some ⟨t,[]⟩)::hp) i=if nx=i then some ⟨t,[]⟩ else hget hp i:=by
  intro i
  show (match Nat.beq nx i with|true=>_|false=>hget hp i)=_
  by_cases h:nx=i
  ·subst h;simp
  ·rw [dm h,if_neg h]
 have hof:∀i,hget ((nx,some ⟨t,[]⟩)::hp) i≠none→ρ i≠none→hget hp i≠none:=by
  intro i hi hr
  rw [hg] at hi
  by_cases h:nx=i
  ·subst h;exact absurd hn hr
  ·rwa [if_neg h] at hi
 refine⟨hc.defers,hc.size,hc.slots,⟨fun i k hk=>?_,fun i j b hi hj h1 h2=>hc.heap.inj i j b (hof i hi (by rw [h1];simp)) (hof j hj (by rw [h2];simp)) h1 h2⟩,fun i hi=>hc.fresh i (Nat.le_trans (Nat.le_succ nx) hi),hc.fok,hc.chg,fun i hi=>?_,fun i b hi hb=>hc.own i b (hof i hi (by rw [hb];simp)) hb,hc.keep,hc.glob⟩
 ·simp only [kp,hg] at hk
  by_cases h:nx=i
  ·subst h
   rw [if_pos rfl] at hk
   cases hk
   exact .inl ⟨rfl,hn⟩
  ·rw [if_neg h] at hk
   exact hc.heap.ok i k hk
 ·simp only [kp,hg] at hi ⊢
  by_cases h:nx=i
  ·subst h;exact Nat.lt_succ_self _
  ·rw [if_neg h] at hi
   exact Nat.lt_succ_of_lt (hc.dom i hi)
theorem zT {c:Ctx} {f:FuncId} {vs:List AV} {o:Oper} {all:Array Oper} {os:List Oper} {k:List It} {st:AS} (t:TypeId) (h:jm c f vs o all os k (kp t st)):jm c f vs o all os k st:=by
 intro hc ρ F a w hcc
 exact h hc ρ F a w (Ct t hcc)
end Go.Abs
namespace Go.Proofs.YtebndjnkmcahaaaGreatDoor
set_option linter.unusedSimpArgs false
set_option linter.unusedVariables false
open Go Go.Abs Go.RowKit
theorem pK (x:UInt8) (k:Nat) (hk:k<256):IntKind.u8.wrap ((x.toNat:Int)+(k:Int))=((x+UInt8.ofNat k).toNat:Int):=by
 rw [bW,UInt8.toNat_add,UInt8.toNat_ofNat']
 omega
theorem pL (x y:UInt8):IntKind.u8.wrap ((x.toNat:Int)+(y.toNat:Int))=((x+y).toNat:Int):=by
 rw [bW,UInt8.toNat_add]
 omega
theorem EX {s j:Nat} (hj:j<s) (h8:s≤8) (n:UInt64):IntKind.i64.wrap (8*((s:Int)-1-j))=((8*(s-1-j):Nat):Int)∧bc .u64 (n.toNat:Int) ((8*(s-1-j):Nat):Int)=((eH n (8*(s-1-j))).toNat:Int):=by
 refine⟨by rw [ab (by omega) (by omega)];omega,?_⟩
 rw [mg n _ (by omega),Int.toNat_natCast]
theorem ny (n:UInt64) (h:n.toNat<24):loN n=n.toUInt8∧szN n=0:=⟨by unfold loN;rw [if_pos h],by unfold szN;rw [if_pos h]⟩
theorem kz (n:UInt64) (h:¬n.toNat<24) (h1:n.toNat<256):loN n=24∧szN n=1:=⟨by unfold loN;rw [if_neg h,if_pos h1],by unfold szN;rw [if_neg h,if_pos h1]⟩
theorem kB (n:UInt64) (h:¬n.toNat<256) (h1:n.toNat<65536):loN n=25∧szN n=2:=⟨by unfold loN;rw [if_neg (by omega),if_neg h,if_pos h1],by unfold szN;rw [if_neg (by omega),if_neg h,if_pos h1]⟩
theorem kC (n:UInt64) (h:¬n.toNat<65536) (h1:n.toNat<4294967296):loN n=26∧szN n=4:=⟨by unfold loN;rw [if_neg (by omega),if_neg (by omega),if_neg h,if_pos h1],by unfold szN;rw [if_neg (by omega),if_neg (by omega),if_neg h,if_pos h1]⟩
theorem kD (n:UInt64) (h:¬n.toNat<4294967296):loN n=27∧szN n=8:=⟨by unfold loN;rw [if_neg (by omega),if_neg (by omega),if_neg (by omega),if_neg h],by unfold szN;rw [if_neg (by omega),if_neg (by omega),if_neg (by omega),if_neg h]⟩
theorem sgD (nx a:Nat):∀i,i∉[1]→nx≤sg nx [nx,a] i:=by
 intro i hi
 match i,hi with
 | 0,_=>simp [sg]
 | 1,hi=>exact absurd (by simp) hi
 | i+2,_=>simp [sg];omega
set_option maxHeartbeats 4000000 in
theorem fQ (l:List UInt8) (k:Nat) (hk:l.length=k) (hb:k<1000000) (m M:UInt8) (hm:gV .u8 (m.toNat:Int) 5=(M.toNat:Int)) (n:UInt64) :
 Con Tryz.prog 216 [.sl 0 0 k 1,.y m,.w n] [(0,some ⟨a7,cb l⟩)] (.sl 1 0 (k+(1+szN n)) 1) [(1,some ⟨a7,cb (l++hdB M n)⟩),(0,none)]:=by
 refine ec 1 Tryz.func216 Tryz.ntmps216 Tryz.results216 [0,1,2,6,7,8,9,14,24,29,34,46] ?_;intro c hP h0 hE kK
 by_cases h24:n.toNat<24
 ·obtain⟨e1,e2⟩:=ny n h24
  have e3:hdB M n=[M+n.toUInt8]:=by unfold hdB;rw [e1,e2];rfl
  simp only [go_sem,hP,hm,show ((n.toNat:Int)<24) from by omega,aD,pL,eh,e2,e3]
  refine⟨⟨hk,by omega,by omega⟩,fc [3,2] rfl ?_ ?_ rfl rfl (fun i hi=>by simp at hi;subst hi;simp [liveK,keys]) (sgD _ _)⟩
  ·simp only [go_sem]
  ·simp only [go_sem]
   exact aj _ _ _ _
 have h24':¬((n.toNat:Int)<24):=by omega
 have l24:IntKind.u8.wrap ((M.toNat:Int)+24)=((M+24).toNat:Int):=pK M 24 (by decide)
 have l25:IntKind.u8.wrap ((M.toNat:Int)+25)=((M+25).toNat:Int):=pK M 25 (by decide)
 have l26:IntKind.u8.wrap ((M.toNat:Int)+26)=((M+26).toNat:Int):=pK M 26 (by decide)
 have l27:IntKind.u8.wrap ((M.toNat:Int)+27)=((M+27).toNat:Int):=pK M 27 (by decide)
 have h8:=gl n
 have h1k:1≤szN n:=by (unfold szN;rw [if_neg h24];repeat' split);all_goals omega
 rcases (show (n.toNat<256∧loN n=24∧szN n=1)∨(¬n.toNat<256∧n.toNat<65536∧loN n=25∧szN n=2)∨(¬n.toNat<65536∧n.toNat<4294967296∧loN n=26∧szN n=4)∨(¬n.toNat<4294967296∧loN n=27∧szN n=8) from by
  by_cases h1:n.toNat<256
  ·exact .inl ⟨h1,kz n h24 h1⟩
  by_cases h2:n.toNat<65536
  ·exact .inr (.inl ⟨h1,h2,kB n h1 h2⟩)
  by_cases h4:n.toNat<4294967296
  ·exact .inr (.inr (.inl ⟨h2,h4,kC n h2 h4⟩))
  ·exact .inr (.inr (.inr ⟨h4,kD n h4⟩))) with ⟨c1,e1,e2⟩|⟨c1,c2,e1,e2⟩|⟨c1,c2,e1,e2⟩|⟨c1,e1,e2⟩
 case' neg.inl =>
  simp only [go_sem,hP,hm,h24',show ((n.toNat:Int)<256) from by omega,l24,eh,show IntKind.i64.wrap (1-1)=0 from by decide]
  refine⟨⟨hk,by omega,by omega⟩,?_⟩
  refine bK hE [0] (fun i hi=>by have:=h0 i hi;simpa [liveK] using this) [0,1,2,6,7,8,9,14,24,29,34,46] (szN n) (fun j=>⟨58,[(0,.sl 1 0 (k+(1+j)) 1),(2,.w n),(9,.i ((szN n:Int)-1-j))],[(1,some ⟨a7,cb (l++(M+loN n)::bgB n (szN n) j)⟩)],2⟩) [] (sg 3 [0,2]) ⟨rfl,?_,?_,rfl,rfl,trivial,fun i h=>bH [0,2] 3 i h⟩ (fun i hi=>by simp at hi;subst hi;rfl) ?_
  ·simp only [go_sem,e2]
   try decide
  ·simp only [go_sem,bgB,e1]
   exact aj _ _ _ _
 case' neg.inr.inl =>
  simp only [go_sem,hP,hm,h24',show ¬((n.toNat:Int)<256) from by omega,show ((n.toNat:Int)<65536) from by omega,l25,eh,show IntKind.i64.wrap (2-1)=1 from by decide]
  refine⟨⟨hk,by omega,by omega⟩,?_⟩
  refine bK hE [0] (fun i hi=>by have:=h0 i hi;simpa [liveK] using this) [0,1,2,6,7,8,9,14,24,29,34,46] (szN n) (fun j=>⟨58,[(0,.sl 1 0 (k+(1+j)) 1),(2,.w n),(9,.i ((szN n:Int)-1-j))],[(1,some ⟨a7,cb (l++(M+loN n)::bgB n (szN n) j)⟩)],2⟩) [] (sg 3 [0,2]) ⟨rfl,?_,?_,rfl,rfl,trivial,fun i h=>bH [0,2] 3 i h⟩ (fun i hi=>by simp at hi;subst hi;rfl) ?_
  ·simp only [go_sem,e2]
   try decide
  ·simp only [go_sem,bgB,e1]
   exact aj _ _ _ _
 case' neg.inr.inr.inl =>
  simp only [go_sem,hP,hm,h24',show ¬((n.toNat:Int)<256) from by omega,show ¬((n.toNat:Int)<65536) from by omega,show ((n.toNat:Int)<4294967296) from by omega,l26,eh,show IntKind.i64.wrap (4-1)=3 from by decide]
  refine⟨⟨hk,by omega,by omega⟩,?_⟩
  refine bK hE [0] (fun i hi=>by have:=h0 i hi;simpa [liveK] using this) [0,1,2,6,7,8,9,14,24,29,34,46] (szN n) (fun j=>⟨58,[(0,.sl 1 0 (k+(1+j)) 1),(2,.w n),(9,.i ((szN n:Int)-1-j))],[(1,some ⟨a7,cb (l++(M+loN n)::bgB n (szN n) j)⟩)],2⟩) [] (sg 3 [0,2]) ⟨rfl,?_,?_,rfl,rfl,trivial,fun i h=>bH [0,2] 3 i h⟩ (fun i hi=>by simp at hi;subst hi;rfl) ?_
  ·simp only [go_sem,e2]
   try decide
  ·simp only [go_sem,bgB,e1]
   exact aj _ _ _ _
 case' neg.inr.inr.inr =>
  simp only [go_sem,hP,hm,h24',show ¬((n.toNat:Int)<256) from by omega,show ¬((n.toNat:Int)<65536) from by omega,show ¬((n.toNat:Int)<4294967296) from by omega,l27,eh,show IntKind.i64.wrap (8-1)=7 from by decide]
  refine⟨⟨hk,by omega,by omega⟩,?_⟩
  refine bK hE [0] (fun i hi=>by have:=h0 i hi;simpa [liveK] using this) [0,1,2,6,7,8,9,14,24,29,34,46] (szN n) (fun j=>⟨58,[(0,.sl 1 0 (k+(1+j)) 1),(2,.w n),(9,.i ((szN n:Int)-1-j))],[(1,some ⟨a7,cb (l++(M+loN n)::bgB n (szN n) j)⟩)],2⟩) [] (sg 3 [0,2]) ⟨rfl,?_,?_,rfl,rfl,trivial,fun i h=>bH [0,2] 3 i h⟩ (fun i hi=>by simp at hi;subst hi;rfl) ?_
  ·simp only [go_sem,e2]
   try decide
  ·simp only [go_sem,bgB,e1]
   exact aj _ _ _ _
 all_goals
  intro j hj
  rcases Nat.lt_or_ge j (szN n) with hjs|hjs
  ·obtain⟨b1,b2⟩:=EX hjs h8 n
   have b3:IntKind.i64.wrap ((szN n:Int)-1-j-1)=(szN n:Int)-1-((j+1:Nat):Int):=by rw [ab (by omega) (by omega)];omega
   simp only [go_sem,hP,b1,b2,b3,aD,eh,show ((szN n:Int)-1-j≥0) from by omega]
   refine⟨by omega,⟨by rw [iQ];omega,by omega,by omega⟩,hjs,kq [0] [0,3] rfl ?_ ?_ rfl rfl (Nat.le_refl _) (fun i hi=>by simp at hi;subst hi;rfl)⟩
   ·simp only [go_sem,Nat.add_assoc]
   ·simp only [go_sem,bgB,List.append_assoc,List.cons_append]
    exact aj _ _ _ _
  ·obtain rfl:j=szN n:=by omega
   simp only [go_sem,hP,show ¬((szN n:Int)-1-(szN n:Int)≥0) from by omega]
   refine fc [2,1] rfl ?_ ?_ rfl rfl (fun i hi=>by simp at hi;subst hi;simp [liveK,keys]) (sgD _ _)
   ·simp only [go_sem,Nat.add_assoc]
   ·simp only [go_sem]
    exact aj _ _ _ _
theorem HP (n:UInt64):(Itm.u n).kd=1:=rfl
theorem HQ (n:UInt64):(Itm.u n).nu=n:=rfl
theorem HR (n:UInt64):(Itm.u n).da=[]:=rfl
theorem HS (s:List UInt8):(Itm.d s).kd=3:=rfl
theorem HT (s:List UInt8):(Itm.d s).nu=0:=rfl
theorem HU (s:List UInt8):(Itm.d s).da=s:=rfl
theorem HV (s:List UInt8):(Itm.t s).kd=4:=rfl
theorem HW (s:List UInt8):(Itm.t s).nu=0:=rfl
theorem HX (s:List UInt8):(Itm.t s).da=s:=rfl
theorem HY (n:UInt64):(Itm.m n).kd=6:=rfl
theorem HZ (n:UInt64):(Itm.m n).nu=n:=rfl
theorem H0 (n:UInt64):(Itm.m n).da=[]:=rfl
theorem H1 (v:Bool):(Itm.b v).kd=7:=rfl
theorem H2 (v:Bool):(Itm.b v).nu=bN v:=rfl
theorem H3 (v:Bool):(Itm.b v).da=[]:=rfl
theorem KA:((UInt64.toNat 0:Nat):Int)=0:=rfl
attribute [go_sem] J4 KA HP HQ HR HS HT HU HV HW HX HY HZ H0 H1 H2 H3
theorem eu {s:List UInt8} (h:s.length<1000000):IntKind.u64.wrap (s.length:Int)=((UInt64.ofNat s.length).toNat:Int):=by
 rw [ak (by omega) (by omega),UInt64.toNat_ofNat',Nat.mod_eq_of_lt (by omega)]
@[simp] theorem JN (T:List Nat) (x:Itm):an T (dg x):=by simp [dg,an,ax]
abbrev u8A (n:Int):AV := .p (.v (.int .u8 n))
abbrev HdK (l:List UInt8) (k:Nat) (m:Int) (M:UInt8) (n:UInt64):Prop:=Con Tryz.prog 216 [.sl 0 0 k 1,u8A m,.w n] [(0,some ⟨a7,cb l⟩)] (.sl 1 0 (k+(1+szN n)) 1) [(1,some ⟨a7,cb (l++hdB M n)⟩),(0,none)]
theorem tc (l:List UInt8) (k:Nat) (hk:l.length=k) (hb:k<1000000) (n:UInt64):HdK l k 0 0 n:=fQ l k hk hb 0 0 (by decide) n
theorem td (l:List UInt8) (k:Nat) (hk:l.length=k) (hb:k<1000000) (n:UInt64):HdK l k 2 64 n:=fQ l k hk hb 2 64 (by decide) n
theorem te (l:List UInt8) (k:Nat) (hk:l.length=k) (hb:k<1000000) (n:UInt64):HdK l k 3 96 n:=fQ l k hk hb 3 96 (by decide) n
theorem tf (l:List UInt8) (k:Nat) (hk:l.length=k) (hb:k<1000000) (n:UInt64):HdK l k 5 160 n:=fQ l k hk hb 5 160 (by decide) n
set_option maxHeartbeats 4000000 in
theorem lQ (l:List UInt8) (k:Nat) (hk:l.length=k) (hb:k<900000) (x:Itm) (hx:x.da.length<2000) :
 Con Tryz.prog 175 [.sl 0 0 k 1,.agg (dg x)] [(0,some ⟨a7,cb l⟩)] (.sl 1 0 (k+(bD x).length) 1) [(1,some ⟨a7,cb (l++bD x)⟩),(0,none)]:=by
 refine ec 1 Tryz.func175 Tryz.ntmps175 Tryz.results175 [0,1,3,4,6,7,16,21] ?_;intro c hP h0 hE kK
 cases x with
 | b v =>
  have e:IntKind.u8.wrap (244+IntKind.u8.wrap ((bN v).toNat:Int))=(((if v then 245 else 244:UInt8)).toNat:Int):=by cases v<;>decide
  simp only [go_sem,hP,e,eh]
  refine⟨⟨hk,by omega,by omega⟩,fc [4,3] rfl ?_ ?_ rfl rfl (fun i hi=>by simp at hi;subst hi;simp [liveK,keys]) (sgD _ _)⟩
  ·cases v<;>simp only [go_sem]<;>rfl
  ·cases v<;>simp only [go_sem]<;>exact aj _ _ _ _
 | u n =>
  simp only [go_sem,hP,show IntKind.u8.wrap (IntKind.i64.wrap (1-1))=0 from by decide]
  have hO:=tc l k hk (by omega) n
  refine ck hE (ks:=[0,1,3,4,6,7,16,21]) (n:=2000) [] (sg 2 [0]) _ (by rw [hP];exact hO) ⟨by simp only [go_sem],by simp only [go_sem];exact aj _ _ _ _,rfl,trivial,Nat.le_add_right _ 2,fun i hi=>by simp [keys] at hi;rcases hi with rfl|rfl<;>simp [liveK,sg],by simp [ax,an,keys],by simp [bS,an,ax,cc],rfl⟩ ?_
  simp only [go_sem,hP]
  refine fc [4,3] rfl ?_ ?_ rfl rfl (fun i hi=>by simp at hi;subst hi;simp [liveK,keys]) (sgD _ _)
  ·simp only [go_sem,bD,bM]
  ·simp only [go_sem,bD]
   exact aj _ _ _ _
 | m n =>
  simp only [go_sem,hP,show IntKind.u8.wrap (IntKind.i64.wrap (6-1))=5 from by decide]
  have hO:=tf l k hk (by omega) n
  refine ck hE (ks:=[0,1,3,4,6,7,16,21]) (n:=2000) [] (sg 2 [0]) _ (by rw [hP];exact hO) ⟨by simp only [go_sem],by simp only [go_sem];exact aj _ _ _ _,rfl,trivial,Nat.le_add_right _ 2,fun i hi=>by simp [keys] at hi;rcases hi with rfl|rfl<;>simp [liveK,sg],by simp [ax,an,keys],by simp [bS,an,ax,cc],rfl⟩ ?_
  simp only [go_sem,hP]
  refine fc [4,3] rfl ?_ ?_ rfl rfl (fun i hi=>by simp at hi;subst hi;simp [liveK,keys]) (sgD _ _)
  ·simp only [go_sem,bD,bM]
  ·simp only [go_sem,bD]
   exact aj _ _ _ _
 | d s =>
  have hs:s.length<2000:=hx
  simp only [go_sem,hP,show IntKind.u8.wrap (IntKind.i64.wrap (3-1))=2 from by decide,eu (show s.length<1000000 from by omega)]
  have hO:=td l k hk (by omega) (UInt64.ofNat s.length)
  refine ck hE (ks:=[0,1,3,4,6,7,16,21]) (n:=2000) [] (sg 2 [0]) _ (by rw [hP];exact hO) ⟨by simp only [go_sem],by simp only [go_sem];exact aj _ _ _ _,rfl,trivial,Nat.le_add_right _ 2,fun i hi=>by simp [keys] at hi;rcases hi with rfl|rfl<;>simp [liveK,sg],by simp [ax,an,keys],by simp [bS,an,ax,cc],rfl⟩ ?_
  have:=gl (UInt64.ofNat s.length)
  simp only [go_sem,hP]
  refine⟨⟨by rw [bM];omega,by omega,by omega⟩,fc [5,4] rfl ?_ ?_ rfl rfl (fun i hi=>by simp at hi;subst hi;simp [liveK,keys]) (sgD _ _)⟩
  ·simp only [go_sem,bD,bM,Nat.add_assoc]
  ·simp only [go_sem,bD,cI,dA,List.append_assoc]
   exact aj _ _ _ _
 | t s =>
  have hs:s.length<2000:=hx
  simp only [go_sem,hP,show IntKind.u8.wrap (IntKind.i64.wrap (4-1))=3 from by decide,eu (show s.length<1000000 from by omega)]
  have hO:=te l k hk (by omega) (UInt64.ofNat s.length)
  refine ck hE (ks:=[0,1,3,4,6,7,16,21]) (n:=2000) [] (sg 2 [0]) _ (by rw [hP];exact hO) ⟨by simp only [go_sem],by simp only [go_sem];exact aj _ _ _ _,rfl,trivial,Nat.le_add_right _ 2,fun i hi=>by simp [keys] at hi;rcases hi with rfl|rfl<;>simp [liveK,sg],by simp [ax,an,keys],by simp [bS,an,ax,cc],rfl⟩ ?_
  have:=gl (UInt64.ofNat s.length)
  simp only [go_sem,hP]
  refine⟨⟨by rw [bM];omega,by omega,by omega⟩,fc [5,4] rfl ?_ ?_ rfl rfl (fun i hi=>by simp at hi;subst hi;simp [liveK,keys]) (sgD _ _)⟩
  ·simp only [go_sem,bD,bM,Nat.add_assoc]
  ·simp only [go_sem,bD,cI,dA,List.append_assoc]
   exact aj _ _ _ _
end Go.Proofs.YtebndjnkmcahaaaGreatDoor
end
