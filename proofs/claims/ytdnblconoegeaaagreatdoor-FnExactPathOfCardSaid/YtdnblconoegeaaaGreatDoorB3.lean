/-
  What the functions of the program answer (first part): bytes, tables, pagers, blocks, headers, heaps.
-/
import Derived.Test.YtdnblconoegeaaaGreatDoorB2
import Derived.Test.YtdnblconoegeaaaGreatDoorB1
set_option linter.all false
section
namespace Go.VS
structure Dk where
  blocks:List Bs
  pend:List Pg
  fuse:Int
  off:Bool
structure Su where
  blocks:Int
  log:Int
  seq:Int
  turn:Int
structure Pr where
  disk:Dk
  su:Su
  seq:Int
  at_:Int
  logged:List Pg
  dirty:List Pg
def dkC (q:Bool) (d:Dk):List V:=[.view q 1 (d.blocks.map .s),.view q 2 (d.pend.map pgV),.i .i64 d.fuse,.b d.off]
def suC (s:Su):List V:=[.i .i64 s.blocks,.i .i64 s.log,.i .i64 s.seq,.i .i64 s.turn]
def prC (q:Bool) (p:Pr):List V:=[.view q 1 (p.disk.blocks.map .s),.view q 2 (p.disk.pend.map pgV),.i .i64 p.disk.fuse,.b p.disk.off,
  .i .i64 p.su.blocks,.i .i64 p.su.log,.i .i64 p.su.seq,.i .i64 p.su.turn,.i .i64 p.seq,.i .i64 p.at_,.view q 2 (p.logged.map pgV),.view q 2 (p.dirty.map pgV)]
def inI (n lo hi:Int):Bool:=decide (lo≤n∧n≤hi)
def blk (l:Bs):Bool:=decide ((l.length:Int)=64)
def putBad (n:Nat) (p:Pg):Bool:=!(inI p.block 0 (n - 1) && blk p.data)
def Dk.ok (d:Dk):Bool:=
  inI d.blocks.length 16 256 && !decide ((600:Int)<d.pend.length) && inI d.fuse (-1) 100000 && !(d.blocks.any fun b=>!blk b) && !(d.pend.any (putBad d.blocks.length))
def Su.ok (s:Su):Bool:=inI s.blocks 16 256 && (inI s.log 8 64 && decide (s.log≤s.blocks - 4)) && inI s.seq 0 1000000000000 && inI s.turn 0 1000000000000
def anyFrom (f:Nat→Bool):Nat→Nat→Bool
  | _,0=>false
  | i,n+1=>f i || anyFrom f (i+1) n
theorem aa5 {f:Nat→Bool} {i N:Nat} (h:i<N):anyFrom f i (N - i)=(f i || anyFrom f (i+1) (N - (i+1))):=by
  obtain ⟨k,hk⟩:∃ k,N - i=k+1:=⟨N - i - 1,by omega⟩
  rw [hk,show N - (i+1)=k by omega];rfl
theorem abw {f:Nat→Bool} {i N:Nat} (h:N≤i):anyFrom f i (N - i)=false:=by
  rw [show N - i=0 by omega];rfl
def pgBad (l:List Pg) (i:Nat):Bool:=
  !inI (l.getD i default).block 0 255 || (decide (0<i) && decide ((l.getD i default).block≤(l.getD (i - 1) default).block)) || !blk (l.getD i default).data
def pagesOk (l:List Pg):Bool:=!(anyFrom (pgBad l) 0 l.length) && decide ((l.length:Int)≤256)
def Su.out (s:Su) (p:Pg):Bool:=!inI p.block (2+s.log) (s.blocks - 1)
def Su.holds (s:Su) (l:List Pg):Bool:=!(l.any s.out)
def tblocks (n:Int):Int:=(2*n+63) / 64
def rblocks (n:Int):Int:=1+tblocks n+n
def Su.fits (s:Su) (n:Int):Bool:=decide (n=0) || (decide (n≤60) && decide (rblocks n≤s.log))
def Pr.ok (p:Pr):Bool:=
  p.disk.ok && p.su.ok && decide (p.su.blocks=p.disk.blocks.length) && !(decide ((1:Int)<p.disk.pend.length) && !p.disk.off) && inI p.seq p.su.seq 1000000000000 && inI p.at_ 0 p.su.log &&
  pagesOk p.logged && pagesOk p.dirty && p.su.holds p.logged && p.su.holds p.dirty && p.su.fits p.dirty.length
structure Pr.sm (p:Pr):Prop where
  sb:p.disk.blocks.length≤lim
  sp:p.disk.pend.length≤lim
  sl:p.logged.length≤lim
  sd:p.dirty.length≤lim
section
variable (q:Bool) (d:Dk) (p:Pr)
@[simp] theorem prC_len:(prC q p).length=12:=rfl
@[simp] theorem dkC_len:(dkC q d).length=4:=rfl
@[simp] theorem suC_len (s:Su):(suC s).length=4:=rfl
@[simp] theorem prC_d1:(prC q p).tail=[.view q 2 (p.disk.pend.map pgV),.i .i64 p.disk.fuse,.b p.disk.off,.i .i64 p.su.blocks,.i .i64 p.su.log,.i .i64 p.su.seq,.i .i64 p.su.turn,.i .i64 p.seq,.i .i64 p.at_,.view q 2 (p.logged.map pgV),.view q 2 (p.dirty.map pgV)]:=rfl
@[simp] theorem prC_d2:(prC q p).drop 2=[.i .i64 p.disk.fuse,.b p.disk.off,.i .i64 p.su.blocks,.i .i64 p.su.log,.i .i64 p.su.seq,.i .i64 p.su.turn,.i .i64 p.seq,.i .i64 p.at_,.view q 2 (p.logged.map pgV),.view q 2 (p.dirty.map pgV)]:=rfl
@[simp] theorem prC_d3:(prC q p).drop 3=[.b p.disk.off,.i .i64 p.su.blocks,.i .i64 p.su.log,.i .i64 p.su.seq,.i .i64 p.su.turn,.i .i64 p.seq,.i .i64 p.at_,.view q 2 (p.logged.map pgV),.view q 2 (p.dirty.map pgV)]:=rfl
@[simp] theorem prC_d4:(prC q p).drop 4=[.i .i64 p.su.blocks,.i .i64 p.su.log,.i .i64 p.su.seq,.i .i64 p.su.turn,.i .i64 p.seq,.i .i64 p.at_,.view q 2 (p.logged.map pgV),.view q 2 (p.dirty.map pgV)]:=rfl
@[simp] theorem prC_d5:(prC q p).drop 5=[.i .i64 p.su.log,.i .i64 p.su.seq,.i .i64 p.su.turn,.i .i64 p.seq,.i .i64 p.at_,.view q 2 (p.logged.map pgV),.view q 2 (p.dirty.map pgV)]:=rfl
@[simp] theorem prC_d6:(prC q p).drop 6=[.i .i64 p.su.seq,.i .i64 p.su.turn,.i .i64 p.seq,.i .i64 p.at_,.view q 2 (p.logged.map pgV),.view q 2 (p.dirty.map pgV)]:=rfl
@[simp] theorem prC_d8:(prC q p).drop 8=[.i .i64 p.seq,.i .i64 p.at_,.view q 2 (p.logged.map pgV),.view q 2 (p.dirty.map pgV)]:=rfl
@[simp] theorem prC_d9:(prC q p).drop 9=[.i .i64 p.at_,.view q 2 (p.logged.map pgV),.view q 2 (p.dirty.map pgV)]:=rfl
@[simp] theorem prC_d10:(prC q p).drop 10=[.view q 2 (p.logged.map pgV),.view q 2 (p.dirty.map pgV)]:=rfl
@[simp] theorem prC_d11:(prC q p).drop 11=[.view q 2 (p.dirty.map pgV)]:=rfl
@[simp] theorem prC_t12:(prC q p).take 12=prC q p:=rfl
@[simp] theorem prC_t4:(prC q p).take 4=dkC q p.disk:=rfl
@[simp] theorem prC_t1:(prC q p).take 1=[.view q 1 (p.disk.blocks.map .s)]:=rfl
@[simp] theorem prC_lend (s xp n):(prC q p).map (lend s xp (n+1))=prC q p:=rfl
@[simp] theorem prC_ren (nb ids):(prC q p).map (renL nb ids)=prC q p:=rfl
@[simp] theorem prC_leaf:(prC q p).all isLeaf=true:=rfl
@[simp] theorem dkC_d1:(dkC q d).tail=[.view q 2 (d.pend.map pgV),.i .i64 d.fuse,.b d.off]:=rfl
@[simp] theorem dkC_d2:(dkC q d).drop 2=[.i .i64 d.fuse,.b d.off]:=rfl
@[simp] theorem dkC_d3:(dkC q d).drop 3=[.b d.off]:=rfl
@[simp] theorem dkC_t4:(dkC q d).take 4=dkC q d:=rfl
@[simp] theorem dkC_t1:(dkC q d).take 1=[.view q 1 (d.blocks.map .s)]:=rfl
@[simp] theorem dkC_lend (s xp n):(dkC q d).map (lend s xp (n+1))=dkC q d:=rfl
@[simp] theorem dkC_ren (nb ids):(dkC q d).map (renL nb ids)=dkC q d:=rfl
@[simp] theorem dkC_leaf:(dkC q d).all isLeaf=true:=rfl
variable (s:Su)
@[simp] theorem suC_fold:[.i .i64 s.blocks,.i .i64 s.log,.i .i64 s.seq,.i .i64 s.turn]=suC s:=rfl
@[simp] theorem suC_d1:(suC s).tail=[.i .i64 s.log,.i .i64 s.seq,.i .i64 s.turn]:=rfl
@[simp] theorem suC_d2:(suC s).drop 2=[.i .i64 s.seq,.i .i64 s.turn]:=rfl
@[simp] theorem suC_d3:(suC s).drop 3=[.i .i64 s.turn]:=rfl
@[simp] theorem suC_t4:(suC s).take 4=suC s:=rfl
@[simp] theorem suC_t1:(suC s).take 1=[.i .i64 s.blocks]:=rfl
@[simp] theorem suC_lend (st xp n):(suC s).map (lend st xp (n+1))=suC s:=rfl
@[simp] theorem suC_ren (nb ids):(suC s).map (renL nb ids)=suC s:=rfl
@[simp] theorem suC_leaf:(suC s).all isLeaf=true:=rfl
@[simp] theorem pgV_cells (x:Pg):(pgV x).cells=[.i .i64 x.block,.s x.data]:=rfl
end
end Go.VS
end
section
namespace Go.VS
theorem ac8 (l:Bs) (K:Out→Prop):Call prog 80 ⟨[.s l],[],[]⟩ K=K (.b (blk l),[],[]):=by
  refine Zc (f:=80) rfl rfl (by decide) ?_
  simp -implicitDefEqProofs [blk]
theorem aab (n lo hi:Int) (K:Out→Prop):Call prog 50 ⟨[.i .i64 n,.i .i64 lo,.i .i64 hi],[],[]⟩ K=K (.b (inI n lo hi),[],[]):=by
  refine Zc (f:=50) rfl rfl (by decide) ?_
  by_cases h:lo≤n <;> simp -implicitDefEqProofs [h,inI]
theorem aaa (n lo hi:Int) (K:Out→Prop):Call prog 39 ⟨[.i .i64 n,.i .i64 lo,.i .i64 hi],[],[]⟩ K=K (.b (inI n lo hi),[],[]):=by
  refine Zc (f:=39) rfl rfl (by decide) ?_
  by_cases h:lo≤n <;> simp -implicitDefEqProofs [h,inI]
theorem ae1 (n:Int) (l:Nat) (hl:l≤lim) (K:Out→Prop):Call prog 134 ⟨[.i .i64 n,.i .i64 l],[],[]⟩ K=K (.b (inI n 0 (l - 1)),[],[]):=by
  refine Zc (f:=134) rfl rfl (by decide) ?_
  unfold lim at hl
  have h1:=wrap_i64 (n:=(l:Int)) (by omega) (by omega)
  have h2:=wrap_i64 (n:=(l:Int) - 1) (by omega) (by omega)
  simp -implicitDefEqProofs [h1,h2,aab]
theorem aui (l:Bs) (K:Out→Prop):Call prog 109 ⟨[.s l],[],[]⟩ K=K (.b (!blk l),[],[]):=by
  refine Zc (f:=109) rfl rfl (by decide) ?_
  simp -implicitDefEqProofs [ac8]
theorem auj (x:Pg) (q:Bool) (d:Dk) (hd:d.blocks.length≤lim) (K:Out→Prop):Call prog 110 ⟨[pgV x,.vp (dkC q d)],[],[]⟩ K=K (.b (putBad d.blocks.length x),[],[]):=by
  refine Zc (f:=110) rfl rfl (by decide) ?_
  have hx:=fun K=>ae1 x.block d.blocks.length hd K
  cases h:inI x.block 0 (d.blocks.length - 1) <;> simp -implicitDefEqProofs [ac8,hx,h,putBad]
theorem cfS (pr:Bs→Bool) (g:Nat) (caps:List V) (q:Bool) (xs:List Bs) (hl:xs.length≤lim) (hcap:capsOk caps=true)
    (hc:∀ x,x ∈ xs→∀ K:Out→Prop,Call prog g ⟨.s x :: caps,[],[]⟩ K=K (.b (pr x),[],[])) (K:Out→Prop):
    Call prog 86 ⟨[.view q 1 (xs.map .s),.fn g caps],[],[]⟩ K=K (.b (xs.any pr),[],[]):=
  ai2 (p:=prog) (f:=86) (ix:=116) (z:=1) (ag:=false) rfl rfl V.s pr g caps q xs hl hcap (fun x=>by simp) (fun s x=>by simp) hc K
theorem cfPut (pr:Pg→Bool) (g:Nat) (caps:List V) (q:Bool) (xs:List Pg) (hl:xs.length≤lim) (hcap:capsOk caps=true)
    (hc:∀ x,x ∈ xs→∀ K:Out→Prop,Call prog g ⟨pgV x :: caps,[],[]⟩ K=K (.b (pr x),[],[])) (K:Out→Prop):
    Call prog 111 ⟨[.view q 2 (xs.map pgV),.fn g caps],[],[]⟩ K=K (.b (xs.any pr),[],[]):=
  ai2 (p:=prog) (f:=111) (ix:=133) (z:=2) (ag:=true) rfl rfl pgV pr g caps q xs hl hcap (fun x=>by simp [pgV]) (fun s x=>by simp [pgV]) hc K
theorem cfPage (pr:Pg→Bool) (g:Nat) (caps:List V) (q:Bool) (xs:List Pg) (hl:xs.length≤lim) (hcap:capsOk caps=true)
    (hc:∀ x,x ∈ xs→∀ K:Out→Prop,Call prog g ⟨pgV x :: caps,[],[]⟩ K=K (.b (pr x),[],[])) (K:Out→Prop):
    Call prog 82 ⟨[.view q 2 (xs.map pgV),.fn g caps],[],[]⟩ K=K (.b (xs.any pr),[],[]):=
  ai2 (p:=prog) (f:=82) (ix:=112) (z:=2) (ag:=true) rfl rfl pgV pr g caps q xs hl hcap (fun x=>by simp [pgV]) (fun s x=>by simp [pgV]) hc K
theorem ake (q:Bool) (d:Dk) (h1:d.blocks.length≤lim) (h2:d.pend.length≤lim) (K:Out→Prop):Call prog 78 ⟨[.agg (dkC q d)],[],[]⟩ K=K (.b d.ok,[],[]):=by
  refine Zc (f:=78) rfl rfl (by decide) ?_
  have e1:=fun K=>cfS (fun b=>!blk b) 109 [] q d.blocks h1 rfl (fun x _=>aui x) K
  have e2:=fun K=>cfPut (putBad d.blocks.length) 110 [.vp (dkC q d)] q d.pend h2 rfl (fun x _=>auj x q d h1) K
  unfold Dk.ok
  cases c1:inI d.blocks.length 16 256 <;> by_cases c2:(600:Int)<d.pend.length <;> cases c3:inI d.fuse (-1) 100000 <;> cases c4:d.blocks.any (fun b=>!blk b) <;> simp -implicitDefEqProofs [aab,c1,c2,c3,c4,e1,e2]
end Go.VS
end
section
namespace Go.VS
theorem Su.bd {s:Su} (h:s.ok=true):(16≤s.blocks∧s.blocks≤256)∧(8≤s.log∧s.log≤64)∧s.log≤s.blocks - 4∧(0≤s.seq∧s.seq≤1000000000000)∧(0≤s.turn∧s.turn≤1000000000000):=by
  simp only [Su.ok,inI,Bool.and_eq_true,decide_eq_true_eq] at h
  omega
theorem aeo (s:Su) (K:Out→Prop):Call prog 79 ⟨[.agg (suC s)],[],[]⟩ K=K (.b s.ok,[],[]):=by
  refine Zc (f:=79) rfl rfl (by decide) ?_
  unfold Su.ok
  cases c1:inI s.blocks 16 256
  · simp -implicitDefEqProofs [aab,c1]
  · have b:16≤s.blocks∧s.blocks≤256:=by simpa [inI] using c1
    have w1:=wrap_i64 (n:=s.blocks - 4) (by omega) (by omega)
    have e1:inI s.log 8 (min 64 (s.blocks - 4))=(inI s.log 8 64 && decide (s.log≤s.blocks - 4)):=by
      rw [Bool.eq_iff_iff];simp only [inI,Bool.and_eq_true,decide_eq_true_eq];omega
    cases c2:(inI s.log 8 64 && decide (s.log≤s.blocks - 4)) <;> cases c3:inI s.seq 0 1000000000000 <;> simp -implicitDefEqProofs [aab,c1,w1,e1,c2,c3]
theorem aaj (s:Su) (K:Out→Prop):Call prog 38 ⟨[.agg (suC s)],[],[]⟩ K=K (.b s.ok,[],[]):=by
  refine Zc (f:=38) rfl rfl (by decide) ?_
  unfold Su.ok
  cases c1:inI s.blocks 16 256
  · simp -implicitDefEqProofs [aaa,c1]
  · have b:16≤s.blocks∧s.blocks≤256:=by simpa [inI] using c1
    have w1:=wrap_i64 (n:=s.blocks - 4) (by omega) (by omega)
    cases c2:inI s.log 8 64 <;> by_cases c4:s.log≤s.blocks - 4 <;> cases c3:inI s.seq 0 1000000000000 <;> simp -implicitDefEqProofs [aaa,c1,w1,c2,c3,c4]
theorem akb (s:Su) (h:s.ok=true) (K:Out→Prop):Call prog 113 ⟨[.agg (suC s)],[],[]⟩ K=K (.i .i64 (2+s.log),[],[]):=by
  refine Zc (f:=113) rfl rfl (by decide) ?_
  have b:=s.bd h
  have w1:=wrap_i64 (n:=2+s.log) (by omega) (by omega)
  simp -implicitDefEqProofs [aeo,h,w1]
theorem ae2 (s:Su) (h:s.ok=true) (K:Out→Prop):Call prog 69 ⟨[.agg (suC s)],[],[]⟩ K=K (.i .i64 (2+s.log),[],[]):=by
  refine Zc (f:=69) rfl rfl (by decide) ?_
  have b:=s.bd h
  have w1:=wrap_i64 (n:=2+s.log) (by omega) (by omega)
  simp -implicitDefEqProofs [w1]
theorem ahn {n:Int} (h0:0≤n) (h1:n≤4294967296):IntKind.i64.wrap ((2*n+64 - 1).tdiv 64)=tblocks n∧0≤tblocks n∧tblocks n≤n+1:=by
  have e:(2*n+64 - 1).tdiv 64=tblocks n:=by
    rw [Int.tdiv_eq_ediv_of_nonneg (by omega)];unfold tblocks;congr 1;omega
  have b:0≤tblocks n∧tblocks n≤n+1:=by unfold tblocks;omega
  exact ⟨by rw [e];exact wrap_i64 (by omega) (by omega),b⟩
theorem ai0 (n:Int) (h0:0≤n) (h1:n≤4294967296) (K:Out→Prop):Call prog 114 ⟨[.i .i64 n],[],[]⟩ K=K (.i .i64 (tblocks n),[],[]):=by
  refine Zc (f:=114) rfl rfl (by decide) ?_
  have w1:=wrap_i64 (n:=2*n) (by omega) (by omega)
  have w2:=wrap_i64 (n:=2*n+64) (by omega) (by omega)
  have w3:=wrap_i64 (n:=2*n+64 - 1) (by omega) (by omega)
  simp -implicitDefEqProofs [w1,w2,w3,(ahn h0 h1).1]
theorem aly (n:Int) (h0:0≤n) (h1:n≤4294967296) (K:Out→Prop):Call prog 99 ⟨[.i .i64 n],[],[]⟩ K=K (.i .i64 (tblocks n),[],[]):=by
  refine Zc (f:=99) rfl rfl (by decide) ?_
  have w1:=wrap_i64 (n:=2*n) (by omega) (by omega)
  have w2:=wrap_i64 (n:=2*n+64) (by omega) (by omega)
  have w3:=wrap_i64 (n:=2*n+64 - 1) (by omega) (by omega)
  simp -implicitDefEqProofs [w1,w2,w3,(ahn h0 h1).1]
theorem ade (n:Int) (K:Out→Prop):Call prog 83 ⟨[.i .i64 n],[],[]⟩ K=K (.i .i64 (if inI n 1 60 then rblocks n else 0),[],[]):=by
  refine Zc (f:=83) rfl rfl (by decide) ?_
  cases c:inI n 1 60
  · simp -implicitDefEqProofs [aab,c]
  · have b:1≤n∧n≤60:=by simpa [inI] using c
    have t:=ahn (n:=n) (by omega) (by omega)
    have w1:=wrap_i64 (n:=1+tblocks n) (by omega) (by omega)
    have w2:=wrap_i64 (n:=1+tblocks n+n) (by omega) (by omega)
    have e:=fun K=>ai0 n (by omega) (by omega) K
    simp -implicitDefEqProofs [aab,c,e,w1,w2,rblocks]
theorem ako (n:Int) (h0:0≤n) (h1:n≤4294967296) (K:Out→Prop):Call prog 70 ⟨[.i .i64 n],[],[]⟩ K=K (.i .i64 (rblocks n),[],[]):=by
  refine Zc (f:=70) rfl rfl (by decide) ?_
  have t:=ahn (n:=n) (by omega) (by omega)
  have w1:=wrap_i64 (n:=1+tblocks n) (by omega) (by omega)
  have w2:=wrap_i64 (n:=1+tblocks n+n) (by omega) (by omega)
  have e:=fun K=>aly n (by omega) (by omega) K
  simp -implicitDefEqProofs [e,w1,w2,rblocks]
theorem ar0 (s:Su) (n:Nat) (hs:s.ok=true) (hn:n≤lim) (K:Out→Prop):Call prog 53 ⟨[.agg (suC s),.i .i64 n],[],[]⟩ K=K (.b (s.fits n),[],[]):=by
  refine Zc (f:=53) rfl rfl (by decide) ?_
  unfold lim at hn
  have b:=s.bd hs
  have w1:=wrap_i64 (n:=(n:Int)) (by omega) (by omega)
  by_cases c:(n:Int)≤60
  · by_cases c0:n=0
    · subst c0
      have:0≤s.log:=by omega
      simp -implicitDefEqProofs [ade,w1,Su.fits,inI,this,show IntKind.i64.wrap 0=0 from rfl]
    · have c1:inI n 1 60=true:=by simp [inI];omega
      have c2:¬ (n:Int)=0:=by omega
      simp -implicitDefEqProofs [ade,w1,Su.fits,c,c0,c1,c2]
  · have c2:¬ (n:Int)=0:=by omega
    simp -implicitDefEqProofs [Su.fits,c,c2]
    omega
theorem ane (s:Su) (n:Nat) (_:s.ok=true) (hn:n≤lim) (K:Out→Prop):Call prog 42 ⟨[.agg (suC s),.i .i64 n],[],[]⟩ K=K (.b (s.fits n),[],[]):=by
  refine Zc (f:=42) rfl rfl (by decide) ?_
  unfold lim at hn
  by_cases c0:n=0
  · subst c0;simp -implicitDefEqProofs [Su.fits]
  · by_cases c:(n:Int)≤60
    · have e:=fun K=>ako (n:Int) (by omega) (by omega) K
      simp -implicitDefEqProofs [c0,c,e,Su.fits]
    · simp -implicitDefEqProofs [c0,c,Su.fits]
theorem aen (q:Bool) (l:List Pg) (hl:l.length≤lim) (K:Out→Prop):Call prog 51 ⟨[.view q 2 (l.map pgV)],[],[]⟩ K=K (.b (pagesOk l),[],[]):=by
  refine Zc (f:=51) rfl rfl (by decide) ?_
  simp -implicitDefEqProofs
  refine WL_for (fun i=>⟨sp 41 [(0,.view q 2 (l.map pgV)),(5,.view q 2 (l.map pgV)),(6,.i .i64 l.length),(7,.i .i64 i)],[],[]⟩) l.length (fun i=>anyFrom (pgBad l) 0 l.length=anyFrom (pgBad l) i (l.length - i)) _ (by simp -implicitDefEqProofs) (by simp) ?_
  intro i hi hP
  unfold lim at hl
  unfold pagesOk
  by_cases hlt:i<l.length
  · have hw:=wrap_i64 (n:=(i:Int)+1) (by omega) (by omega)
    rw [hP,aa5 hlt]
    have e0:l.getD i default=l[i]:=by simp [hlt]
    cases i with
    | zero=>
      cases c1:inI l[0].block 0 255 <;> cases c2:blk l[0].data <;> simp -implicitDefEqProofs [hlt,aab,ac8,c1,c2,pgV,pgBad,hw,Next]
    | succ j=>
      have hj:j<l.length:=by omega
      have hw2:=wrap_i64 (n:=(j:Int)) (by omega) (by omega)
      have hlt':(j:Int)+1<l.length:=by omega
      have h0':(0:Int)≤(j:Int)+1:=by omega
      have h1':(0:Int)<(j:Int)+1:=by omega
      have ht:((j:Int)+1).toNat=j+1:=by omega
      have hw':IntKind.i64.wrap ((j:Int)+1+1)=(j:Int)+1+1:=wrap_i64 (by omega) (by omega)
      cases c1:inI l[j+1].block 0 255 <;> cases c2:blk l[j+1].data <;> by_cases c3:l[j+1].block≤l[j].block <;> simp -implicitDefEqProofs [hlt,hj,hlt',h0',h1',ht,aab,ac8,c1,c2,c3,pgV,pgBad,hw2,hw',Next]
  · rw [hP,abw (by omega)]
    simp -implicitDefEqProofs [hlt]
end Go.VS
end
section
namespace Go.VS
theorem am8 (s:Su) (x:Pg) (hs:s.ok=true) (K:Out→Prop):Call prog 81 ⟨[pgV x,.vp (suC s)],[],[]⟩ K=K (.b (s.out x),[],[]):=by
  refine Zc (f:=81) rfl rfl (by decide) ?_
  have b:=s.bd hs
  have w1:=wrap_i64 (n:=s.blocks - 1) (by omega) (by omega)
  have e:=fun K=>akb s hs K
  simp -implicitDefEqProofs [aab,e,w1,Su.out]
theorem aju (s:Su) (q:Bool) (l:List Pg) (hs:s.ok=true) (hl:l.length≤lim) (K:Out→Prop):Call prog 52 ⟨[.agg (suC s),.view q 2 (l.map pgV)],[],[]⟩ K=K (.b (s.holds l),[],[]):=by
  refine Zc (f:=52) rfl rfl (by decide) ?_
  have e:=fun K=>cfPage s.out 81 [.vp (suC s)] q l hl rfl (fun x _=>am8 s x hs) K
  simp -implicitDefEqProofs [e,Su.holds]
theorem agd (s:Su) (q:Bool) (l:List Pg) (hs:s.ok=true) (hl:l.length≤lim) (K:Out→Prop):Call prog 41 ⟨[.agg (suC s),.view q 2 (l.map pgV)],[],[]⟩ K=K (.b (s.holds l),[],[]):=by
  refine Zc (f:=41) rfl rfl (by decide) ?_
  simp -implicitDefEqProofs
  unfold lim at hl
  refine WL_for (fun i=>⟨sp 24 [(1,.view q 2 (l.map pgV)),(2,.ptr 0 0),(5,.i .i64 i)],[suC s],[]⟩) l.length (fun i=>l.any s.out=(l.drop i).any s.out) _ (by simp -implicitDefEqProofs) (by simp) ?_
  intro i hi hP
  unfold Su.holds
  by_cases hlt:i<l.length
  · have hw:=wrap_i64 (n:=(i:Int)+1) (by omega) (by omega)
    have b:=s.bd hs
    have w1:=wrap_i64 (n:=s.blocks - 1) (by omega) (by omega)
    have e:=fun K=>ae2 s hs K
    rw [hP,afa hlt]
    cases c:inI l[i].block (2+s.log) (s.blocks - 1) <;> simp -implicitDefEqProofs [hlt,pgV,aaa,e,w1,hw,Su.out,c,Next]
  · rw [hP,ahu (by omega)]
    simp -implicitDefEqProofs [hlt]
theorem aks (q:Bool) (d:Dk) (s:Su) (h1:d.blocks.length≤lim) (h2:d.pend.length≤lim) (K:Out→Prop):
    Call prog 49 ⟨[.agg (dkC q d),.agg (suC s)],[],[]⟩ K=K (.b (d.ok && s.ok && decide (s.blocks=d.blocks.length)),[],[]):=by
  refine Zc (f:=49) rfl rfl (by decide) ?_
  have e:=fun K=>ake q d h1 h2 K
  cases c1:d.ok <;> cases c2:s.ok <;> simp -implicitDefEqProofs [e,aeo,c1,c2]
theorem ahd (q:Bool) (l:List Pg) (hl:l.length≤lim) (K:Out→Prop):Call prog 40 ⟨[.view q 2 (l.map pgV)],[],[]⟩ K=K (.b (pagesOk l),[],[]):=by
  refine Zc (f:=40) rfl rfl (by decide) ?_
  unfold lim at hl
  unfold pagesOk
  by_cases c0:(256:Int)<l.length
  · have c0':¬ (l.length:Int)≤256:=by omega
    simp -implicitDefEqProofs [c0,c0']
  have c0':(l.length:Int)≤256:=by omega
  simp -implicitDefEqProofs [c0,c0']
  refine WL_for (fun i=>⟨sp 47 [(0,.view q 2 (l.map pgV)),(3,.i .i64 i)],[],[]⟩) l.length (fun i=>anyFrom (pgBad l) 0 l.length=anyFrom (pgBad l) i (l.length - i)) _ (by simp -implicitDefEqProofs) (by simp) ?_
  intro i hi hP
  by_cases hlt:i<l.length
  · have hw:=wrap_i64 (n:=(i:Int)+1) (by omega) (by omega)
    rw [hP,aa5 hlt]
    cases i with
    | zero=>
      cases c1:inI l[0].block 0 255 <;> by_cases c2:(l[0].data.length:Int)=64 <;> simp -implicitDefEqProofs [hlt,aaa,blk,c1,c2,pgV,pgBad,hw,Next]
    | succ j=>
      have hj:j<l.length:=by omega
      have hw2:=wrap_i64 (n:=(j:Int)) (by omega) (by omega)
      have hlt':(j:Int)+1<l.length:=by omega
      have h0':(0:Int)≤(j:Int)+1:=by omega
      have h1':(0:Int)<(j:Int)+1:=by omega
      have ht:((j:Int)+1).toNat=j+1:=by omega
      have hw':IntKind.i64.wrap ((j:Int)+1+1)=(j:Int)+1+1:=wrap_i64 (by omega) (by omega)
      cases c1:inI l[j+1].block 0 255 <;> by_cases c2:(l[j+1].data.length:Int)=64 <;> by_cases c3:l[j+1].block≤l[j].block <;> simp -implicitDefEqProofs [hlt,hj,hlt',h0',h1',ht,aaa,blk,c1,c2,c3,pgV,pgBad,hw2,hw',Next]
  · rw [hP,abw (by omega)]
    simp -implicitDefEqProofs [hlt]
end Go.VS
end
section
namespace Go.VS
theorem aq7 (q:Bool) (d:Dk) (h1:d.blocks.length≤lim) (h2:d.pend.length≤lim) (K:Out→Prop):Call prog 37 ⟨[.vp (dkC q d)],[],[]⟩ K=K (.b d.ok,[],[]):=by
  refine Zc (f:=37) rfl rfl (by decide) ?_
  unfold lim at h1 h2
  have w1:=wrap_i64 (n:=(d.blocks.length:Int) - 1) (by omega) (by omega)
  cases c1:inI d.blocks.length 16 256
  · simp -implicitDefEqProofs [aaa,c1,Dk.ok]
  by_cases c2:(600:Int)<d.pend.length
  · simp -implicitDefEqProofs [aaa,c1,c2,Dk.ok]
  cases c3:inI d.fuse (-1) 100000
  · simp -implicitDefEqProofs [aaa,c1,c2,c3,Dk.ok]
  simp -implicitDefEqProofs [aaa,c1,c2,c3]
  refine WL_for (fun i=>⟨sp 81 [(0,.vp (dkC q d)),(3,.i .i64 d.blocks.length),(4,.i .i64 i)],[],[]⟩) d.blocks.length (fun i=>(d.blocks.any fun b=>!blk b)=((d.blocks.drop i).any fun b=>!blk b)) _ (by simp -implicitDefEqProofs) (by simp) ?_
  intro i hi hP
  unfold Dk.ok
  by_cases hlt:i<d.blocks.length
  · have hw:=wrap_i64 (n:=(i:Int)+1) (by omega) (by omega)
    rw [hP,afa hlt]
    by_cases c:(d.blocks[i].length:Int)=64 <;> simp -implicitDefEqProofs [hlt,blk,c,hw,Next]
  · rw [hP,ahu (by omega)]
    simp -implicitDefEqProofs [hlt]
    refine WL_for (fun i=>⟨sp 81 [(0,.vp (dkC q d)),(3,.i .i64 d.blocks.length),(5,.i .i64 i)],[],[]⟩) d.pend.length (fun i=>(d.pend.any (putBad d.blocks.length))=((d.pend.drop i).any (putBad d.blocks.length))) _ (by simp -implicitDefEqProofs) (by simp) ?_
    intro k hk hP2
    by_cases hlt2:k<d.pend.length
    · have hw:=wrap_i64 (n:=(k:Int)+1) (by omega) (by omega)
      rw [hP2,afa hlt2]
      cases c4:inI d.pend[k].block 0 (d.blocks.length - 1) <;> by_cases c:(d.pend[k].data.length:Int)=64 <;> simp -implicitDefEqProofs [hlt2,aaa,pgV,putBad,w1,blk,c4,c,hw,Next]
    · rw [hP2,ahu (by omega)]
      simp -implicitDefEqProofs [hlt2,c1,c2,c3]
set_option maxHeartbeats 2000000 in
theorem ajd (q:Bool) (p:Pr) (h:p.sm) (K:Out→Prop):Call prog 21 ⟨[.agg (prC q p)],[],[]⟩ K=K (.b p.ok,[],[]):=by
  refine Zc (f:=21) rfl rfl (by decide) ?_
  have e1:=fun K=>aks q p.disk p.su h.sb h.sp K
  have e2:=fun K=>aen q p.logged h.sl K
  have e3:=fun K=>aen q p.dirty h.sd K
  unfold Pr.ok
  cases c1:(p.disk.ok && p.su.ok && decide (p.su.blocks=p.disk.blocks.length))
  · simp -implicitDefEqProofs [e1,c1]
  have hs:p.su.ok=true:=by simp only [Bool.and_eq_true] at c1;exact c1.1.2
  have e4:=fun K=>aju p.su q p.logged hs h.sl K
  have e5:=fun K=>aju p.su q p.dirty hs h.sd K
  have e6:=fun K=>ar0 p.su p.dirty.length hs h.sd K
  by_cases c2:(1:Int)<p.disk.pend.length <;> cases c3:p.disk.off
  all_goals try (simp -implicitDefEqProofs [e1,c1,aab,c2,c3];done)
  all_goals cases c4:inI p.seq p.su.seq 1000000000000
  all_goals try (simp -implicitDefEqProofs [e1,c1,aab,c2,c3,c4];done)
  all_goals cases c5:inI p.at_ 0 p.su.log
  all_goals try (simp -implicitDefEqProofs [e1,c1,aab,c2,c3,c4,c5,e2];done)
  all_goals cases c6:pagesOk p.logged
  all_goals try (simp -implicitDefEqProofs [e1,c1,aab,c2,c3,c4,c5,e2,c6,e3];done)
  all_goals cases c7:pagesOk p.dirty
  all_goals try (simp -implicitDefEqProofs [e1,c1,aab,c2,c3,c4,c5,e2,c6,e3,c7,e4];done)
  all_goals cases c8:p.su.holds p.logged
  all_goals try (simp -implicitDefEqProofs [e1,c1,aab,c2,c3,c4,c5,e2,c6,e3,c7,e4,c8,e5];done)
  all_goals cases c9:p.su.holds p.dirty
  all_goals try (simp -implicitDefEqProofs [e1,c1,aab,c2,c3,c4,c5,e2,c6,e3,c7,e4,c8,e5,c9,e6];done)
set_option maxHeartbeats 2000000 in
theorem aq8 (q:Bool) (p:Pr) (h:p.sm) (K:Out→Prop):Call prog 16 ⟨[.vp (prC q p)],[],[]⟩ K=K (.b p.ok,[],[]):=by
  refine Zc (f:=16) rfl rfl (by decide) ?_
  have e1:=fun K=>aq7 q p.disk h.sb h.sp K
  have e2:=fun K=>ahd q p.logged h.sl K
  have e3:=fun K=>ahd q p.dirty h.sd K
  unfold Pr.ok
  cases c1:p.disk.ok
  · simp -implicitDefEqProofs [e1,c1]
  cases hs:p.su.ok
  · by_cases c2:(1:Int)<p.disk.pend.length <;> cases c3:p.disk.off <;> simp -implicitDefEqProofs [e1,c1,aaj,hs,c2,c3]
  have e4:=fun K=>agd p.su q p.logged hs h.sl K
  have e5:=fun K=>agd p.su q p.dirty hs h.sd K
  have e6:=fun K=>ane p.su p.dirty.length hs h.sd K
  by_cases c2:(1:Int)<p.disk.pend.length <;> cases c3:p.disk.off
  all_goals try (simp -implicitDefEqProofs [e1,c1,hs,aaa,aaj,c2,c3];done)
  all_goals by_cases c00:p.su.blocks=p.disk.blocks.length
  all_goals try (simp -implicitDefEqProofs [e1,c1,hs,aaa,aaj,c2,c3,c00];done)
  all_goals have c0:=c00.symm
  all_goals clear c00
  all_goals cases c4:inI p.seq p.su.seq 1000000000000
  all_goals try (simp -implicitDefEqProofs [e1,c1,hs,aaa,aaj,c2,c3,c0,c4];done)
  all_goals cases c5:inI p.at_ 0 p.su.log
  all_goals try (simp -implicitDefEqProofs [e1,c1,hs,aaa,aaj,c2,c3,c0,c4,c5,e2];done)
  all_goals cases c6:pagesOk p.logged
  all_goals try (simp -implicitDefEqProofs [e1,c1,hs,aaa,aaj,c2,c3,c0,c4,c5,e2,c6,e3];done)
  all_goals cases c7:pagesOk p.dirty
  all_goals try (simp -implicitDefEqProofs [e1,c1,hs,aaa,aaj,c2,c3,c0,c4,c5,e2,c6,e3,c7,e4];done)
  all_goals cases c8:p.su.holds p.logged
  all_goals try (simp -implicitDefEqProofs [e1,c1,hs,aaa,aaj,c2,c3,c0,c4,c5,e2,c6,e3,c7,e4,c8,e5];done)
  all_goals cases c9:p.su.holds p.dirty
  all_goals try (simp -implicitDefEqProofs [e1,c1,hs,aaa,aaj,c2,c3,c0,c4,c5,e2,c6,e3,c7,e4,c8,e5,c9,e6];done)
end Go.VS
end
section
namespace Go.VS
def bsF (z:Nat) (ag:Bool):Fd:=.ir 3 49 [.t 6,.t 7]
 (.seq (.r [.mv 6 (.c (.i .i64 0)),.mv 7 (.c (.b false))])
 (.seq (.r [.mv 12 (.t 0),.len 13 false (.t 12),.mv 8 (.t 13)])
 (.seq (.r [.mv 14 (.t 8),.mv 9 (.c (.i .i64 0)),.mv 10 (.t 14)])
 (.seq (.blk 0 (.loop [0,1,2,8,9,10] [] [] (.seq (.seq (.r [.mv 15 (.t 9),.mv 16 (.t 10),.bin 17 .lss (.t 15) (.t 16)])
 (.cond (.t 17) (.skip)
 (.ex 0)))
 (.blk 1 (.seq (.r [.mv 18 (.t 9),.mv 19 (.t 10),.bin 20 .add (.t 18) (.t 19),.cvi 21 .u64 (.t 20),.bin 22 .shr (.t 21) (.c (.i .u64 1)),.cvi 23 .i64 (.t 22),.mv 11 (.t 23)])
 (.seq (.r [.mv 24 (.t 2),.mv 25 (.t 0),.mv 26 (.t 11),.ixa 27 (.t 25) (.t 26) z,.ld 28 (.t 27) z ag,.mv 29 (.t 1),.callv (some 30) (.t 24) [((.t 28),.b 0),((.t 29),.b 0)],.bin 31 .lss (.t 30) (.c (.i .i64 0))])
 (.cond (.t 31) (.r [.mv 32 (.t 11),.bin 33 .add (.t 32) (.c (.i .i64 1)),.mv 9 (.t 33)])
 (.r [.mv 34 (.t 11),.mv 10 (.t 34)]))))))))
 (.seq (.r [.mv 35 (.t 9),.mv 36 (.t 9),.mv 37 (.t 8),.bin 38 .lss (.t 36) (.t 37),.mv 39 (.t 38),.g 39 true (some 40) (.mv 40 (.t 2)),.g 39 true (some 41) (.mv 41 (.t 0)),.g 39 true (some 42) (.mv 42 (.t 9)),.g 39 true (some 43) (.ixa 43 (.t 41) (.t 42) z),.g 39 true (some 44) (.ld 44 (.t 43) z ag),.g 39 true (some 45) (.mv 45 (.t 1)),.g 39 true (some 46) (.callv (some 46) (.t 40) [((.t 44),.b 0),((.t 45),.b 0)]),.g 39 true (some 47) (.bin 47 .eql (.t 46) (.c (.i .i64 0))),.pick 48 (.t 39) (.t 47) (.c (.b false)),.mv 6 (.t 35),.mv 7 (.t 48)])
 (.ret))))))
structure Turn {α:Type} (cm:α→Int) (xs:List α) (t:Nat):Prop where
  le:t≤xs.length
  lo:∀ j (h:j<xs.length),j<t→cm xs[j]<0
  hi:∀ j (h:j<xs.length),t≤j→0≤cm xs[j]
def hitB {α:Type} (cm:α→Int) (xs:List α) (t:Nat):Bool:=match xs[t]? with | some x=>decide (cm x=0) | none=>false
theorem half {i j:Nat}:shrI .u64 ((i:Int)+j) 1=((i+j) / 2:Nat):=by
  unfold shrI
  rw [show (min (Int.toNat 1) (IntKind.u64).bits)=1 from rfl,Int.fdiv_eq_ediv_of_nonneg _ (by decide)]
  omega
set_option maxHeartbeats 1000000 in
theorem atq {p:Prog} {f:Nat} {z:Nat} {ag:Bool} (hp:p f=some (bsF z ag)) {α:Type} (e:α→V) (cm:α→Int) (g:Nat) (tg:V) (q:Bool) (xs:List α) (t:Nat) (hl:xs.length≤lim) (ht:Turn cm xs t)
    (htg:renL 0 [] tg=tg) (htg1:tg.mapL (renL 0 [])=renL 0 [] tg) (htg2:∀ s,lendA s ⟨[],[]⟩ 0 tg=tg)
    (hel:∀ x,(range (e x).cells 0 z).bind (mkV ag)=some (e x)) (hle:∀ s x,lendA s ⟨[],[]⟩ 0 (e x)=e x)
    (hc:∀ x,x ∈ xs→∀ K:Out→Prop,Call p g ⟨[e x,tg],[],[]⟩ K=K (.i .i64 (cm x),[],[])) (K:Out→Prop):
    Call p f ⟨[.view q z (xs.map e),tg,.fn g []],[],[]⟩ K=K (.tup [.i .i64 t,.b (hitB cm xs t)],[],[]):=by
  refine adu ?_ K
  rw [ahr hp _ _ _ rfl (by decide)]
  simp -implicitDefEqProofs
  unfold lim at hl
  refine WL_st (α:=Nat × Nat) (fun a=>⟨sp 49 [(0,.view q z (xs.map e)),(1,tg),(2,.fn g []),(8,.i .i64 xs.length),(9,.i .i64 a.1),(10,.i .i64 a.2)],[],[]⟩) (fun a=>a.2 - a.1) (fun a=>a.1≤t∧t≤a.2∧a.2≤xs.length) (0,xs.length) _ (by simp -implicitDefEqProofs [htg,htg1]) ⟨Nat.zero_le _,ht.le,Nat.le_refl _⟩ ?_
  rintro ⟨i,j⟩ ⟨h1,h2,h3⟩
  simp only at h1 h2 h3
  by_cases hlt:i<j
  · have w1:IntKind.i64.wrap ((i:Int)+j)=(i:Int)+j:=wrap_i64 (by omega) (by omega)
    have w1u:IntKind.u64.wrap ((i:Int)+j)=(i:Int)+j:=wrap_u64 (by omega) (by omega)
    have w2:=half (i:=i) (j:=j)
    have hm1:i≤(i+j) / 2:=by omega
    have hm2:(i+j) / 2<j:=by omega
    generalize (i+j) / 2=m at w2 hm1 hm2
    have hmx:m<xs.length:=by omega
    have w3:IntKind.i64.wrap ((m:Int)+1)=(m:Int)+1:=wrap_i64 (by omega) (by omega)
    have w4:IntKind.i64.wrap (m:Int)=(m:Int):=wrap_i64 (by omega) (by omega)
    have hc':=hc xs[m] (List.getElem_mem _)
    by_cases hs:cm xs[m]<0
    · simp -implicitDefEqProofs [-range,hlt,w1,w1u,w2,w4,hmx,hel,hle,htg2,hc',hs,w3,htg,htg1]
      refine NextS.mk (m+1,j) ⟨?_,h2,h3⟩ (by simp only;omega) (by simp)
      exact Nat.lt_of_not_le fun h=>by have:=ht.hi m hmx h;omega
    · simp -implicitDefEqProofs [-range,hlt,w1,w1u,w2,w4,hmx,hel,hle,htg2,hc',hs,htg,htg1]
      refine NextS.mk (i,m) ⟨h1,?_,by simp only;omega⟩ (by simp only;omega) (by simp)
      exact Nat.le_of_not_lt fun h=>hs (ht.lo m hmx h)
  · have hij:i=t:=by omega
    subst hij
    by_cases hn:i<xs.length
    · have hc':=hc xs[i] (List.getElem_mem _)
      simp -implicitDefEqProofs [-range,hlt,hn,hel,hle,htg2,hc',hitB]
    · simp -implicitDefEqProofs [-range,hlt,hn,hitB]
end Go.VS
end
section
namespace Go.VS
theorem adv {f:Nat→Bool}:∀ (n i:Nat),anyFrom f i n=false→∀ j,i≤j→j<i+n→f j=false
  | 0,i,_,j,h1,h2=>by omega
  | n+1,i,h,j,h1,h2=>by
    simp only [anyFrom,Bool.or_eq_false_iff] at h
    by_cases e:j=i
    · subst e;exact h.1
    · exact adv n (i+1) h.2 j (by omega) (by omega)
def Sorted (l:List Pg):Prop:=∀ i j (hi:i<l.length) (hj:j<l.length),i<j→l[i].block<l[j].block
theorem ahj {l:List Pg} (h:pagesOk l=true):l.length≤256∧Sorted l∧∀ x,x ∈ l→(0≤x.block∧x.block≤255)∧x.data.length=64:=by
  simp only [pagesOk,Bool.and_eq_true,Bool.not_eq_true',decide_eq_true_eq] at h
  have hb:∀ i (hi:i<l.length),pgBad l i=false:=fun i hi=>adv _ _ h.1 i (Nat.zero_le _) (by omega)
  have hg:∀ i (hi:i<l.length),((0≤l[i].block∧l[i].block≤255)∧l[i].data.length=64)∧∀ j,i=j+1→∀ hj:j<l.length,l[j].block<l[i].block:=by
    intro i hi
    have:=hb i hi
    have e:l.getD i default=l[i]:=by simp [hi]
    simp only [pgBad,Bool.or_eq_false_iff,e,inI,blk,Bool.not_eq_false',decide_eq_true_eq] at this
    refine ⟨⟨this.1.1,by have:=this.2;omega⟩,?_⟩
    rintro j rfl hj
    have h2:=this.1.2
    have e2:l.getD (j+1 - 1) default=l[j]:=by simp [hj]
    rw [e2] at h2
    simp only [Bool.and_eq_false_iff,decide_eq_false_iff_not] at h2
    omega
  refine ⟨by omega,?_,?_⟩
  · intro i j hi hj hij
    induction j with
    | zero=>omega
    | succ j ih=>
      have h1:=(hg (j+1) hj).2 j rfl (by omega)
      by_cases e:i=j
      · subst e;exact h1
      · have:=ih (by omega) (by omega);omega
  · intro x hx
    obtain ⟨i,hi,rfl⟩:=List.getElem_of_mem hx
    exact (hg i hi).1
def cmpI (x y:Int):Int:=if x<y then -1 else if y<x then 1 else 0
def pgAt (l:List Pg) (k:Int):Option Pg:=l.find? fun p=>p.block == k
def lowI (l:List Pg) (k:Int):Nat:=(l.takeWhile fun p=>decide (p.block<k)).length
theorem asm (l:List Pg) (k:Int):lowI l k≤l.length:=by
  unfold lowI
  exact (List.takeWhile_prefix _).length_le
theorem ahe:∀ (l:List Pg) (k:Int),(∀ j (h:j<l.length),j<lowI l k→l[j].block<k)∧∀ h:lowI l k<l.length,¬ l[lowI l k].block<k
  | [],k=>⟨fun j h=>by simp at h,fun h=>by simp at h⟩
  | x :: l,k=>by
    obtain ⟨h1,h2⟩:=ahe l k
    by_cases hx:x.block<k
    · have e:lowI (x :: l) k=lowI l k+1:=by simp [lowI,List.takeWhile_cons,hx]
      rw [e]
      refine ⟨fun j h hj=>?_,fun h=>?_⟩
      · cases j with
        | zero=>exact hx
        | succ j=>exact h1 j (by simpa using h) (by omega)
      · exact h2 (by simpa using h)
    · have e:lowI (x :: l) k=0:=by simp [lowI,List.takeWhile_cons,hx]
      rw [e]
      exact ⟨fun j h hj=>by omega,fun h=>hx⟩
theorem aqh {l:List Pg} (hs:Sorted l) (k:Int):Turn (fun p:Pg=>cmpI p.block k) l (lowI l k):=by
  obtain ⟨h1,h2⟩:=ahe l k
  refine ⟨asm l k,fun j h hj=>?_,fun j h hj=>?_⟩
  · have:=h1 j h hj
    simp [cmpI,this]
  · have hlt:lowI l k<l.length:=by omega
    have h3:=h2 hlt
    have:¬ l[j].block<k:=by
      by_cases e:j=lowI l k
      · subst e;exact h3
      · have:=hs _ _ hlt h (by omega);omega
    unfold cmpI
    rw [if_neg this]
    split <;> omega
theorem ai5 {l:List Pg} (hs:Sorted l) (k:Int):pgAt l k=match l[lowI l k]? with | some x=>if cmpI x.block k=0 then some x else none | none=>none:=by
  have T:=aqh hs k
  unfold pgAt
  cases hx:l[lowI l k]? with
  | none=>
    have hlen:=List.getElem?_eq_none_iff.1 hx
    simp only
    rw [List.find?_eq_none]
    intro x hx2
    obtain ⟨i,hi,rfl⟩:=List.getElem_of_mem hx2
    have:=T.lo i hi (by omega)
    unfold cmpI at this
    simp only [beq_iff_eq]
    intro e
    rw [e] at this
    simp at this
  | some x=>
    obtain ⟨hlt,rfl⟩:=List.getElem?_eq_some_iff.1 hx
    simp only
    split
    · rename_i h0
      have hk:l[lowI l k].block=k:=by
        unfold cmpI at h0
        split at h0
        · cases h0
        · split at h0
          · cases h0
          · omega
      rw [List.find?_eq_some_iff_append]
      refine ⟨by simpa using hk,l.take (lowI l k),l.drop (lowI l k+1),?_,?_⟩
      · rw [← List.drop_eq_getElem_cons hlt];exact (List.take_append_drop _ _).symm
      · intro a ha
        obtain ⟨i,hi,rfl⟩:=List.getElem_of_mem ha
        rw [List.getElem_take]
        rw [List.length_take] at hi
        have:=hs i (lowI l k) (by omega) hlt (by omega)
        simp only [Bool.not_eq_true',beq_eq_false_iff_ne,ne_eq]
        omega
    · rename_i h0
      rw [List.find?_eq_none]
      intro x hx2
      obtain ⟨i,hi,rfl⟩:=List.getElem_of_mem hx2
      simp only [beq_iff_eq]
      intro e
      by_cases hl:i<lowI l k
      · have:=T.lo i hi hl
        unfold cmpI at this
        rw [e] at this
        simp at this
      · have h3:=T.hi _ hlt (Nat.le_refl _)
        have hne:l[lowI l k].block≠k:=by
          intro e2
          exact h0 (by simp [cmpI,e2])
        have:k<l[lowI l k].block:=by
          unfold cmpI at h3
          split at h3
          · omega
          · omega
        by_cases e3:i=lowI l k
        · subst e3;exact hne e
        · have:=hs _ _ hlt hi (by omega)
          omega
theorem ae0 {α:Type} (pr:α→Bool):∀ (l:List α) (i:Nat),match l.find? pr with
    | none=>idxF pr l i=-1
    | some x=>∃ j,idxF pr l i=((i+j:Nat):Int)∧l[j]?=some x
  | [],i=>rfl
  | x :: l,i=>by
    have ih:=ae0 pr l (i+1)
    rw [List.find?_cons]
    cases hx:pr x
    · simp only [idxF,hx,Bool.false_eq_true,if_false]
      split at ih
      · exact ih
      · rename_i y h
        obtain ⟨j,h1,h2⟩:=ih
        exact ⟨j+1,by rw [h1];omega,by simpa using h2⟩
    · simp only [idxF,hx,if_true]
      exact ⟨0,by simp,rfl⟩
def Pr.com (p:Pr) (k:Int):Bs:=
  match pgAt p.logged k with
  | some x=>x.data
  | none=>diskRead p.disk.blocks p.disk.pend k
def Pr.get (p:Pr) (k:Int):Bs:=
  match pgAt p.dirty k with
  | some x=>x.data
  | none=>p.com k
structure Pr.Ok (p:Pr):Prop where
  nb:16≤p.disk.blocks.length∧p.disk.blocks.length≤256
  np:p.disk.pend.length≤600
  bl:∀ b,b ∈ p.disk.blocks→b.length=64
  pd:∀ x,x ∈ p.disk.pend→(0≤x.block∧x.block<p.disk.blocks.length)∧x.data.length=64
  su:p.su.ok=true
  sb:p.su.blocks=p.disk.blocks.length
  lg:p.logged.length≤256∧Sorted p.logged∧∀ x,x ∈ p.logged→(0≤x.block∧x.block≤255)∧x.data.length=64
  dt:p.dirty.length≤256∧Sorted p.dirty∧∀ x,x ∈ p.dirty→(0≤x.block∧x.block≤255)∧x.data.length=64
  sm:p.sm
theorem Pr.ok_facts {p:Pr} (h:p.ok=true):p.Ok:=by
  simp only [Pr.ok,Dk.ok,Bool.and_eq_true,Bool.not_eq_true',decide_eq_true_eq,decide_eq_false_iff_not,inI] at h
  obtain ⟨⟨⟨⟨⟨⟨⟨⟨⟨⟨⟨⟨⟨⟨h1,h2⟩,h3⟩,h4⟩,h5⟩,h6⟩,h7⟩,h8⟩,h9⟩,h10⟩,h11⟩,h12⟩,h13⟩,h14⟩,h15⟩:=h
  have hl:=ahj h11
  have hd:=ahj h12
  have e1:p.disk.blocks.length≤256:=by omega
  have e2:p.disk.pend.length≤600:=by omega
  refine ⟨by omega,e2,?_,?_,h6,h7,hl,hd,⟨by unfold lim;omega,by unfold lim;omega,by unfold lim;omega,by unfold lim;omega⟩⟩
  · intro b hb
    rw [List.any_eq_false] at h4
    have:=h4 b hb
    simp only [blk,Bool.not_eq_true',Bool.not_eq_false',decide_eq_true_eq,Bool.not_eq_true,Bool.not_eq_false,decide_eq_false_iff_not,Decidable.not_not] at this
    omega
  · intro x hx
    rw [List.any_eq_false] at h5
    have:=h5 x hx
    simp only [putBad,blk,inI,Bool.not_eq_true',Bool.not_eq_false',Bool.and_eq_true,decide_eq_true_eq,Bool.not_eq_true,Bool.not_eq_false] at this
    omega
theorem Pr.Ok.sub {p:Pr} (h:p.Ok):(8≤p.su.log∧p.su.log≤64)∧p.su.log≤p.su.blocks - 4∧16≤p.su.blocks∧p.su.blocks≤256:=by
  have hs:=h.su
  simp only [Su.ok,inI,Bool.and_eq_true,decide_eq_true_eq] at hs
  omega
theorem ams {p:Pr} (h:p.Ok) (k:Int) (hk:0≤k∧k<p.disk.blocks.length):(diskRead p.disk.blocks p.disk.pend k).length=64:=by
  unfold diskRead lastOf
  cases e:p.disk.pend.reverse.find? (fun x=>x.block == k) with
  | none=>
    simp only [Option.map_none,Option.getD_none]
    have hlt:k.toNat<p.disk.blocks.length:=by omega
    rw [List.getD_eq_getElem?_getD,List.getElem?_eq_getElem hlt]
    exact h.bl _ (List.getElem_mem _)
  | some x=>
    have:=List.mem_of_find?_eq_some e
    exact (h.pd x (by simpa using this)).2
theorem Pr.get_len {p:Pr} (h:p.Ok) (k:Int) (hk:0≤k∧k<p.disk.blocks.length):(p.get k).length=64:=by
  unfold Pr.get Pr.com pgAt
  cases e:p.dirty.find? (fun x=>x.block == k) with
  | some x=>exact (h.dt.2.2 x (List.mem_of_find?_eq_some e)).2
  | none=>
    simp only
    cases e2:p.logged.find? (fun x=>x.block == k) with
    | some x=>exact (h.lg.2.2 x (List.mem_of_find?_eq_some e2)).2
    | none=>exact ams h k hk
def leI:Bs→Int
  | []=>0
  | b :: l=>(b.toNat:Int)+256*leI l
theorem leI_bd:∀ l:Bs,0≤leI l∧leI l<256 ^ l.length
  | []=>by simp [leI]
  | b :: l=>by
    have ih:=leI_bd l
    have hb:=b.toNat_lt
    rw [leI,List.length_cons,Int.pow_succ]
    omega
theorem aqf:∀ (l:Bs) (b:UInt8),leI (l++[b])=leI l+b.toNat * 256 ^ l.length
  | [],b=>by simp [leI]
  | a :: l,b=>by
    rw [List.cons_append,leI,aqf l b,leI,List.length_cons,Int.pow_succ]
    have:(256:Int)*(leI l+b.toNat * 256 ^ l.length)=256*leI l+b.toNat * (256 ^ l.length*256):=by
      rw [Int.mul_add,Int.mul_left_comm,Int.mul_comm 256 (256 ^ l.length)]
    omega
theorem or_add {m:Nat} {x:Int} {b:Nat} (hx:0≤x) (hx2:x<2 ^ m) (hb:b<256) (hm:m+8≤64):borI .u64 x (b*2 ^ m)=x+b*2 ^ m:=by
  obtain ⟨n,rfl⟩:∃ n:Nat,x=n:=⟨x.toNat,by omega⟩
  have hn:n<2 ^ m:=by exact_mod_cast hx2
  have h8:b*2 ^ m<2 ^ 64:=by
    have:b*2 ^ m<256*2 ^ m:=Nat.mul_lt_mul_of_pos_right hb (Nat.two_pow_pos m)
    have e:256*2 ^ m=2 ^ (m+8):=by rw [Nat.pow_add,Nat.mul_comm]
    have:=Nat.pow_le_pow_right (n:=2) (by omega) hm
    omega
  have hsum:n+b*2 ^ m<2 ^ 64:=by
    have h1:n+b*2 ^ m<(b+1)*2 ^ m:=by rw [Nat.add_mul,Nat.one_mul];omega
    have h2:(b+1)*2 ^ m≤256*2 ^ m:=Nat.mul_le_mul_right _ hb
    have e:256*2 ^ m=2 ^ (m+8):=by rw [Nat.pow_add,Nat.mul_comm]
    have:=Nat.pow_le_pow_right (n:=2) (by omega) hm
    omega
  have hor:n ||| b*2 ^ m=n+b*2 ^ m:=by
    have:=Nat.two_pow_add_eq_or_of_lt hn b
    rw [Nat.or_comm,Nat.mul_comm b]
    omega
  have e1:(BitVec.ofInt 64 (n:Int)).toNat=n:=by
    rw [BitVec.toNat_ofInt]
    have:n<2 ^ 64:=by omega
    omega
  have e2:(BitVec.ofInt 64 ((b:Int)*2 ^ m)).toNat=b*2 ^ m:=by
    have e:(b:Int)*2 ^ m=((b*2 ^ m:Nat):Int):=by push_cast;rfl
    rw [e,BitVec.toNat_ofInt]
    omega
  have e3:(BitVec.ofInt IntKind.u64.bits (n:Int) ||| BitVec.ofInt IntKind.u64.bits ((b:Int)*2 ^ m)).toNat=n+b*2 ^ m:=by
    rw [BitVec.toNat_or,show IntKind.u64.bits=64 from rfl,e1,e2,hor]
  unfold borI
  rw [e3]
  have e:(b:Int)*2 ^ m=((b*2 ^ m:Nat):Int):=by push_cast;rfl
  rw [e,wrap_u64 (by omega) (by omega)]
  push_cast;rfl
def bitE (area:Bs) (k:Int):Bool:=decide (bandI .u8 (shrI .u8 ((area.getD (4+k / 8).toNat 0).toNat:Int) (k % 8)) 1=1)
end Go.VS
namespace Go.VS
theorem au0 {l:Bs} {i:Nat} (h:i<l.length) (h8:l.length≤8):borI .u64 (leI (l.take i)) (shlI .u64 (l[i].toNat:Int) (8*(i:Int)))=leI (l.take (i+1)):=by
  have hb:=leI_bd (l.take i)
  rw [List.length_take,Nat.min_eq_left (by omega)] at hb
  have e256:(256:Int) ^ i=2 ^ (8*i):=by rw [Int.pow_mul];rfl
  have hbyte:=l[i].toNat_lt
  have e1:shlI .u64 (l[i].toNat:Int) (8*(i:Int))=(l[i].toNat:Int)*2 ^ (8*i):=by
    unfold shlI
    rw [show (8*(i:Int)).toNat=8*i by omega,show min (8*i) IntKind.u64.bits=8*i by show min (8*i) 64=8*i;omega]
    have h0:l[i].toNat * 2 ^ (8*i)<2 ^ 64:=by
      have h1:l[i].toNat * 2 ^ (8*i)<256*2 ^ (8*i):=Nat.mul_lt_mul_of_pos_right hbyte (Nat.two_pow_pos _)
      have e:256*2 ^ (8*i)=2 ^ (8*i+8):=by rw [Nat.pow_add,Nat.mul_comm]
      have:=Nat.pow_le_pow_right (n:=2) (by omega) (show 8*i+8≤64 by omega)
      omega
    have e:(l[i].toNat:Int)*2 ^ (8*i)=((l[i].toNat * 2 ^ (8*i):Nat):Int):=by push_cast;rfl
    rw [e]
    exact wrap_u64 (by omega) (by omega)
  rw [e1,or_add hb.1 (by rw [← e256];exact hb.2) hbyte (by omega),← List.take_append_getElem h,aqf,List.length_take,Nat.min_eq_left (by omega),e256]
theorem al4 {l:Bs} {i:Nat} (h:i<l.length):leI (l.drop i)=l[i].toNat+256*leI (l.drop (i+1)):=by
  rw [List.drop_eq_getElem_cons h,leI]
theorem atp {i:Nat} (h:i≤7):(256:Int) ^ i≤72057594037927936:=by
  have h1:(256:Nat) ^ i≤256 ^ 7:=Nat.pow_le_pow_right (by omega) h
  have h2:(256:Nat) ^ 7=72057594037927936:=rfl
  have h3:((256 ^ i:Nat):Int)=(256:Int) ^ i:=Int.natCast_pow 256 i
  rw [h2] at h1
  generalize (256:Nat) ^ i=x at h1 h3
  omega
theorem apk {i:Nat} (h:i≤6):(256:Int) ^ i≤281474976710656:=by
  have h1:(256:Nat) ^ i≤256 ^ 6:=Nat.pow_le_pow_right (by omega) h
  have h2:(256:Nat) ^ 6=281474976710656:=rfl
  have h3:((256 ^ i:Nat):Int)=(256:Int) ^ i:=Int.natCast_pow 256 i
  rw [h2] at h1
  generalize (256:Nat) ^ i=x at h1 h3
  omega
def Pr.area (p:Pr):Bs:=p.get (2+p.su.log)
def Pr.root (p:Pr):Int:=leI (p.area.take 2)
def Pr.data (p:Pr) (k:Int):Bool:=decide (2+p.su.log<k) && decide (k≤p.su.blocks - 1)
def Pr.alloc (p:Pr) (k:Int):Bool:=p.data k && bitE p.area k
theorem Pr.area_len {p:Pr} (h:p.Ok):p.area.length=64:=by
  have b:=h.sub
  have hb:=h.sb
  exact p.get_len h _ (by omega)
end Go.VS
namespace Go.VS
def dTake (n:Nat) (s:Bs) (bad:Bool):Bs × Bs × Bool:=if n≤s.length then (s.take n,s.drop n,bad) else ([],s,true)
theorem aal {n:Nat} {s:Bs} {bad:Bool}:(dTake n s bad).2.1.length≤s.length:=by
  unfold dTake;split <;> simp
theorem agm {n:Nat} {s:Bs} {bad:Bool}:(dTake n s bad).1.length≤n:=by
  unfold dTake;split <;> simp;omega
end Go.VS
end
section
namespace Go.VS
theorem ak5 (x:Int) (K:Out→Prop):Call prog 165 ⟨[.i .i64 x],[],[]⟩ K=K (.b false,[],[]):=by
  refine Zc (f:=165) rfl rfl (by decide) ?_
  simp -implicitDefEqProofs
theorem amj (x y:Int) (K:Out→Prop):Call prog 164 ⟨[.i .i64 x,.i .i64 y],[],[]⟩ K=K (.i .i64 (cmpI x y),[],[]):=by
  refine Zc (f:=164) rfl rfl (by decide) ?_
  by_cases h:x<y
  · simp -implicitDefEqProofs [ak5,h,cmpI]
  · by_cases h2:y<x <;> simp -implicitDefEqProofs [ak5,h,h2,cmpI]
theorem anp (x:Pg) (k:Int) (K:Out→Prop):Call prog 146 ⟨[pgV x,.i .i64 k],[],[]⟩ K=K (.i .i64 (cmpI x.block k),[],[]):=by
  refine Zc (f:=146) rfl rfl (by decide) ?_
  simp -implicitDefEqProofs [amj]
theorem aj5 (q:Bool) (l:List Pg) (k:Int) (hl:l.length≤lim) (hs:Sorted l) (K:Out→Prop):
    Call prog 123 ⟨[.view q 2 (l.map pgV),.i .i64 k],[],[]⟩ K=K (.tup [.i .i64 (lowI l k),.b (pgAt l k).isSome],[],[]):=by
  refine Zc (f:=123) rfl rfl (by decide) ?_
  have e:=fun K=>atq (p:=prog) (f:=145) (z:=2) (ag:=true) rfl pgV (fun p=>cmpI p.block k) 146 (.i .i64 k) q l (lowI l k) hl (aqh hs k) rfl rfl (fun _=>rfl) (fun x=>by simp [pgV]) (fun s x=>by simp [pgV]) (fun x _=>anp x k) K
  have e2:hitB (fun p:Pg=>cmpI p.block k) l (lowI l k)=(pgAt l k).isSome:=by
    rw [ai5 hs]
    unfold hitB
    cases l[lowI l k]? with
    | none=>rfl
    | some x=>simp only;split <;> simp [*]
  rw [e2] at e
  simp -implicitDefEqProofs [e]
theorem aje (q:Bool) (p:Pr) (h:p.Ok) (K:Out→Prop):Call prog 93 ⟨[.vp (prC q p)],[],[]⟩ K=K (.i .i64 (2+p.su.log),[],[]):=by
  refine Zc (f:=93) rfl rfl (by decide) ?_
  have b:=h.sub
  have w1:=wrap_i64 (n:=2+p.su.log) (by omega) (by omega)
  simp -implicitDefEqProofs [w1]
theorem as8 (q:Bool) (p:Pr) (k:Int) (h2:p.disk.pend.length≤lim) (hk:0≤k∧k<p.disk.blocks.length) (K:Out→Prop):Call prog 147 ⟨[.agg (dkC q p.disk),.i .i64 k],[],[]⟩ K=K (.s (diskRead p.disk.blocks p.disk.pend k),[],[]):=by
  rw [adc (p:=prog) (f:=147) rfl]
  have:nDiskRead ⟨[.agg (dkC q p.disk),.i .i64 k],[],[]⟩=some (.s (diskRead p.disk.blocks p.disk.pend k),[],[]):=by
    simp only [nDiskRead,dkC,amg,as3]
    rw [if_pos ⟨.inr hk,h2⟩]
  rw [this,agk]
theorem aqq {l:List Pg} (hs:Sorted l) {k:Int} {x:Pg} (h:pgAt l k=some x):∃ hlt:lowI l k<l.length,l[lowI l k]=x:=by
  rw [ai5 hs] at h
  cases hx:l[lowI l k]? with
  | none=>rw [hx] at h;cases h
  | some y=>
    rw [hx] at h
    simp only at h
    split at h
    · cases h
      obtain ⟨h1,h2⟩:=List.getElem?_eq_some_iff.1 hx
      exact ⟨h1,h2⟩
    · cases h
theorem akh (q:Bool) (p:Pr) (h:p.Ok) (k:Int) (hk:0≤k∧k<p.disk.blocks.length) (K:Out→Prop):Call prog 124 ⟨[.vp (prC q p),.i .i64 k],[],[]⟩ K=
    K (.s (p.com k),[],[]):=by
  refine Zc (f:=124) rfl rfl (by decide) ?_
  have e:=fun K=>aj5 q p.logged k h.sm.sl h.lg.2.1 K
  have e2:=fun K=>as8 q p k h.sm.sp hk K
  unfold Pr.com
  cases c:pgAt p.logged k with
  | none=>simp -implicitDefEqProofs [e,e2,c]
  | some x=>
    obtain ⟨hlt,hx⟩:=aqq h.lg.2.1 c
    simp -implicitDefEqProofs [e,c,hlt,hx]
theorem alt (q:Bool) (p:Pr) (h:p.Ok) (k:Int) (hk:0≤k∧k<p.disk.blocks.length) (K:Out→Prop):Call prog 94 ⟨[.vp (prC q p),.i .i64 k],[],[]⟩ K=K (.s (p.get k),[],[]):=by
  refine Zc (f:=94) rfl rfl (by decide) ?_
  have e:=fun K=>aj5 q p.dirty k h.sm.sd h.dt.2.1 K
  have e2:=fun K=>akh q p h k hk K
  unfold Pr.get
  cases c:pgAt p.dirty k with
  | none=>simp -implicitDefEqProofs [e,e2,c]
  | some x=>
    obtain ⟨hlt,hx⟩:=aqq h.dt.2.1 c
    simp -implicitDefEqProofs [e,c,hlt,hx]
theorem aii (q:Bool) (l:List Pg) (k:Int) (hl:l.length≤lim) (K:Out→Prop):Call prog 127 ⟨[.view q 2 (l.map pgV),.i .i64 k],[],[]⟩ K=K (.i .i64 (idxF (fun p=>p.block == k) l 0),[],[]):=by
  refine Zc (f:=127) rfl rfl (by decide) ?_
  unfold lim at hl
  simp -implicitDefEqProofs
  refine WL_for (fun i=>⟨sp 20 [(0,.view q 2 (l.map pgV)),(1,.i .i64 k),(5,.i .i64 i)],[],[]⟩) l.length (fun i=>idxF (fun p=>p.block == k) l 0=idxF (fun p=>p.block == k) (l.drop i) i) _ (by simp -implicitDefEqProofs) (by simp) ?_
  intro i hi hP
  by_cases hlt:i<l.length
  · have hw:=wrap_i64 (n:=(i:Int)+1) (by omega) (by omega)
    have hx:=ajt (pr:=fun p:Pg=>p.block == k) (List.getElem?_eq_getElem hlt)
    rw [hP,hx]
    by_cases hk:l[i].block=k <;> simp -implicitDefEqProofs [hlt,hk,hw,Next]
  · rw [hP,alv (by omega)]
    simp -implicitDefEqProofs [hlt]
theorem anc (q:Bool) (d:Dk) (k:Int) (h2:d.pend.length≤lim) (hk:0≤k∧k<d.blocks.length) (K:Out→Prop):Call prog 128 ⟨[.vp (dkC q d),.i .i64 k],[],[]⟩ K=K (.s (diskRead d.blocks d.pend k),[],[]):=by
  refine Zc (f:=128) rfl rfl (by decide) ?_
  unfold lim at h2
  have w0:=wrap_i64 (n:=(d.pend.length:Int) - 1) (by omega) (by omega)
  simp -implicitDefEqProofs
  refine WL_for (fun i=>⟨sp 41 [(0,.vp (dkC q d)),(1,.i .i64 k),(5,.i .i64 (d.pend.length - 1 - i))],[],[]⟩) d.pend.length (fun i=>d.pend.reverse.find? (fun p=>p.block == k)=(d.pend.reverse.drop i).find? (fun p=>p.block == k)) _ (by simp -implicitDefEqProofs [w0]) (by simp) ?_
  intro i hi hP
  unfold diskRead lastOf
  rw [hP]
  by_cases hlt:i<d.pend.length
  · have hr:i<d.pend.reverse.length:=by simpa using hlt
    rw [List.drop_eq_getElem_cons hr,List.find?_cons,List.getElem_reverse]
    have c1:(i:Int)≤(d.pend.length:Int) - 1:=by omega
    have c2:(d.pend.length:Int) - 1 - i<d.pend.length:=by omega
    have c3:((d.pend.length:Int) - 1 - i).toNat=d.pend.length - 1 - i:=by omega
    have c4:d.pend.length - 1 - i<d.pend.length:=by omega
    have w1:IntKind.i64.wrap ((d.pend.length:Int) - 1 - i - 1)=(d.pend.length:Int) - 1 - (i+1):=by rw [wrap_i64 (by omega) (by omega)];omega
    by_cases hb:d.pend[d.pend.length - 1 - i].block=k
    · simp -implicitDefEqProofs [c1,c2,c3,c4,hb]
    · have hb':(d.pend[d.pend.length - 1 - i].block == k)=false:=by simpa using hb
      simp -implicitDefEqProofs [c1,c2,c3,c4,hb,hb',w1,Next,hlt]
  · have hr:d.pend.reverse.length≤i:=by simp;omega
    rw [List.drop_of_length_le hr]
    have c1:¬ (i:Int)≤(d.pend.length:Int) - 1:=by omega
    have c2:k.toNat<d.blocks.length:=by omega
    simp -implicitDefEqProofs [c1,c2,hk.1,hk.2]
theorem ajx (q:Bool) (p:Pr) (h:p.Ok) (k:Int) (hk:0≤k∧k<p.disk.blocks.length) (K:Out→Prop):Call prog 101 ⟨[.vp (prC q p),.i .i64 k],[],[]⟩ K=K (.s (p.get k),[],[]):=by
  refine Zc (f:=101) rfl rfl (by decide) ?_
  have e:=fun K=>aii q p.dirty k h.sm.sd K
  have e2:=fun K=>aii q p.logged k h.sm.sl K
  have e3:=fun K=>anc q p.disk k h.sm.sp hk K
  have f1:=ae0 (fun x:Pg=>x.block == k) p.dirty 0
  have f2:=ae0 (fun x:Pg=>x.block == k) p.logged 0
  unfold Pr.get Pr.com pgAt
  cases c:p.dirty.find? (fun x=>x.block == k) with
  | some x=>
    rw [c] at f1
    obtain ⟨j,g1,g2⟩:=f1
    obtain ⟨hlt,hx⟩:=List.getElem?_eq_some_iff.1 g2
    rw [Nat.zero_add] at g1
    simp -implicitDefEqProofs [e,g1,hlt,hx]
  | none=>
    rw [c] at f1
    simp only at f1
    cases c2:p.logged.find? (fun x=>x.block == k) with
    | some x=>
      rw [c2] at f2
      obtain ⟨j,g1,g2⟩:=f2
      obtain ⟨hlt,hx⟩:=List.getElem?_eq_some_iff.1 g2
      rw [Nat.zero_add] at g1
      simp -implicitDefEqProofs [e,f1,e2,g1,hlt,hx]
    | none=>
      rw [c2] at f2
      simp only at f2
      simp -implicitDefEqProofs [e,f1,e2,f2,e3]
theorem aij (q:Bool) (p:Pr) (h:p.Ok) (K:Out→Prop):Call prog 71 ⟨[.vp (prC q p)],[],[]⟩ K=K (.s (p.get (2+p.su.log)),[],[]):=by
  refine Zc (f:=71) rfl rfl (by decide) ?_
  have b:=h.sub
  have hb:=h.sb
  have e:=fun K=>ae2 p.su h.su K
  have e2:=fun K=>ajx q p h (2+p.su.log) (by omega) K
  simp -implicitDefEqProofs [e,e2]
theorem alz (q:Bool) (p:Pr) (h:p.Ok) (K:Out→Prop):Call prog 169 ⟨[.vp (prC q p)],[],[]⟩ K=K (.i .i64 (3+p.su.log),[],[]):=by
  refine Zc (f:=169) rfl rfl (by decide) ?_
  have b:=h.sub
  have e:=fun K=>ae2 p.su h.su K
  have w:IntKind.i64.wrap (2+p.su.log+1)=3+p.su.log:=by rw [wrap_i64 (by omega) (by omega)];omega
  simp -implicitDefEqProofs [e,w]
end Go.VS
end
section
namespace Go.VS
theorem aig (l:Bs) (hl:l.length≤8) (K:Out→Prop):Call prog 95 ⟨[.s l],[],[]⟩ K=K (.i .u64 (leI l),[],[]):=by
  refine Zc (f:=95) rfl rfl (by decide) ?_
  simp -implicitDefEqProofs
  refine WL_for (fun i=>⟨sp 21 [(0,.s l),(3,.i .u64 (leI (l.take i))),(6,.i .i64 l.length),(7,.i .i64 i)],[],[]⟩) l.length (fun _=>True) _ (by simp -implicitDefEqProofs [leI]) trivial ?_
  intro i hi _
  by_cases hlt:i<l.length
  · have hw:=wrap_i64 (n:=(i:Int)+1) (by omega) (by omega)
    have hw8:=wrap_i64 (n:=8*(i:Int)) (by omega) (by omega)
    have hb:=l[i].toNat_lt
    have hb64:IntKind.u64.wrap (l[i].toNat:Int)=l[i].toNat:=wrap_u64 (by omega) (by omega)
    have h8:¬ 8*(i:Int)<0:=by omega
    have hs:=au0 hlt hl
    simp -implicitDefEqProofs [hlt,hw,hw8,hb64,h8,hs,Next]
  · have:i=l.length:=by omega
    subst this
    simp -implicitDefEqProofs
theorem akn (s:Bs) (a z:Int) (hs:s.length≤lim) (K:Out→Prop):Call prog 100 ⟨[.s s,.i .i64 a,.i .i64 z],[],[]⟩ K=K (.b (inI z 1 8 && inI a 0 s.length && decide (z≤s.length - a)),[],[]):=by
  refine Zc (f:=100) rfl rfl (by decide) ?_
  unfold lim at hs
  cases c1:inI z 1 8
  · simp -implicitDefEqProofs [aaa,c1]
  cases c2:inI a 0 s.length
  · simp -implicitDefEqProofs [aaa,c1,c2]
  have b:0≤a∧a≤s.length:=by simpa [inI] using c2
  have w:=wrap_i64 (n:=(s.length:Int) - a) (by omega) (by omega)
  simp -implicitDefEqProofs [aaa,c1,c2,w]
theorem ael (s:Bs) (a z:Nat) (hs:s.length≤lim) (hz1:1≤z) (hz7:z≤7) (ha:a+z≤s.length) (K:Out→Prop):
    Call prog 72 ⟨[.s s,.i .i64 a,.i .i64 z],[],[]⟩ K=K (.tup [.i .i64 (leI ((s.drop a).take z)),.b true],[],[]):=by
  refine Zc (f:=72) rfl rfl (by decide) ?_
  have e:=fun K=>akn s a z hs K
  have c:(inI (z:Int) 1 8 && inI (a:Int) 0 s.length && decide ((z:Int)≤s.length - a))=true:=by
    simp only [inI,Bool.and_eq_true,decide_eq_true_eq];omega
  rw [c] at e
  unfold lim at hs
  have h8:¬ z=8:=by omega
  have w0:=wrap_i64 (n:=(z:Int) - 1) (by omega) (by omega)
  have h8':¬ (z:Int)=8:=by omega
  simp -implicitDefEqProofs [e,h8,h8',w0]
  have hpl:((s.drop a).take z).length=z:=by rw [List.length_take,List.length_drop];omega
  have hpi:∀ j,j<z→((s.drop a).take z)[j]?=s[a+j]?:=by
    intro j h;rw [List.getElem?_take_of_lt h,List.getElem?_drop]
  generalize (s.drop a).take z=l at hpl hpi
  refine WL_for (fun i=>⟨sp 42 [(0,.s s),(1,.i .i64 a),(8,.i .i64 (leI (l.drop (z - i)))),(9,.i .i64 (z - 1 - i))],[],[]⟩) z (fun _=>True) _ (by
    rw [Nat.sub_zero,List.drop_of_length_le (by omega)]
    simp -implicitDefEqProofs [leI,w0]) trivial ?_
  intro i hi _
  by_cases hlt:i<z
  · have c1:(i:Int)≤(z:Int) - 1:=by omega
    have hd:=al4 (l:=l) (i:=z - (i+1)) (by omega)
    have hp:=hpi (z - (i+1)) (by omega)
    rw [List.getElem?_eq_getElem (show z - (i+1)<l.length by omega),List.getElem?_eq_getElem (show a+(z - (i+1))<s.length by omega)] at hp
    rw [show z - (i+1)+1=z - i by omega,Option.some.inj hp] at hd
    have hbd:=leI_bd (l.drop (z - i))
    have hlen:(l.drop (z - i)).length=i:=by rw [List.length_drop];omega
    rw [hlen] at hbd
    have h256:=apk (i:=i) (by omega)
    have hb:=(s[a+(z - (i+1))]'(by omega)).toNat_lt
    have p2:(0:Int)≤(a:Int)+((z:Int) - 1 - i):=by omega
    have p3:(a:Int)+((z:Int) - 1 - i)<s.length:=by omega
    have p4:((a:Int)+((z:Int) - 1 - i)).toNat=a+(z - (i+1)):=by omega
    have p5:a+(z - (i+1))<s.length:=by omega
    have w2:=wrap_i64 (n:=(a:Int)+((z:Int) - 1 - i)) (by omega) (by omega)
    have w3:=wrap_i64 (n:=leI (l.drop (z - i))*256) (by omega) (by omega)
    have hd2:leI (l.drop (z - i))*256+(s[a+(z - (i+1))]'p5).toNat=leI (l.drop (z - (i+1))):=by omega
    have hbd2:=leI_bd (l.drop (z - (i+1)))
    have hlen2:(l.drop (z - (i+1))).length=i+1:=by rw [List.length_drop];omega
    rw [hlen2] at hbd2
    have h2562:=atp (i:=i+1) (by omega)
    have w4:=wrap_i64 (n:=leI (l.drop (z - (i+1)))) (by omega) (by omega)
    have w5:IntKind.i64.wrap ((s[a+(z - (i+1))]'p5).toNat:Int)=(s[a+(z - (i+1))]'p5).toNat:=wrap_i64 (by omega) (by omega)
    have w6:IntKind.i64.wrap ((z:Int) - 1 - i - 1)=(z:Int) - 1 - (i+1):=by rw [wrap_i64 (by omega) (by omega)];omega
    simp -implicitDefEqProofs [c1,p2,p3,p4,p5,w2,w3,w5,hd2,w4,w6,Next,hlt]
  · have c1:¬ (i:Int)≤(z:Int) - 1:=by omega
    have:z - i=0:=by omega
    rw [this]
    simp -implicitDefEqProofs [c1]
theorem ata (q:Bool) (p:Pr) (h:p.Ok) (K:Out→Prop):Call prog 60 ⟨[.vp (prC q p)],[],[]⟩ K=K (.i .i64 p.root,[],[]):=by
  refine Zc (f:=60) rfl rfl (by decide) ?_
  have b:=h.sub
  have hb:=h.sb
  have e:=fun K=>aje q p h K
  have e2:=fun K=>alt q p h (2+p.su.log) (by omega) K
  have hl:(p.get (2+p.su.log)).length=64:=p.area_len h
  have e3:=fun K=>aig ((p.get (2+p.su.log)).take 2) (by rw [List.length_take];omega) K
  have hbd:=leI_bd ((p.get (2+p.su.log)).take 2)
  rw [List.length_take,hl] at hbd
  have w:=wrap_i64 (n:=leI ((p.get (2+p.su.log)).take 2)) (by omega) (by have:(256:Int) ^ (min 2 64)=65536:=rfl;omega)
  simp -implicitDefEqProofs [e,e2,e3,hl,w,Pr.root,Pr.area]
theorem aik (q:Bool) (p:Pr) (h:p.Ok) (K:Out→Prop):Call prog 43 ⟨[.vp (prC q p)],[],[]⟩ K=K (.i .i64 p.root,[],[]):=by
  refine Zc (f:=43) rfl rfl (by decide) ?_
  have hl:(p.get (2+p.su.log)).length=64:=p.area_len h
  have e:=fun K=>aij q p h K
  have e2:=fun K=>ael (p.get (2+p.su.log)) 0 2 (by unfold lim;omega) (by omega) (by omega) (by omega) K
  simp only [Int.natCast_zero,Int.cast_ofNat_Int,List.drop_zero] at e2
  simp -implicitDefEqProofs [e,e2,Pr.root,Pr.area]
theorem aov (q:Bool) (p:Pr) (h:p.Ok) (k:Int) (K:Out→Prop):Call prog 166 ⟨[.vp (prC q p),.i .i64 k,.i .i64 1],[],[]⟩ K=K (.b (p.data k),[],[]):=by
  refine Zc (f:=166) rfl rfl (by decide) ?_
  have b:=h.sub
  have e:=fun K=>aje q p h K
  have w:=wrap_i64 (n:=p.su.blocks - 1) (by omega) (by omega)
  have c1:(1:Int)≤p.su.blocks:=by omega
  by_cases c:2+p.su.log<k <;> simp -implicitDefEqProofs [e,c,c1,w,Pr.data]
theorem anf (q:Bool) (p:Pr) (h:p.Ok) (k:Int) (K:Out→Prop):Call prog 153 ⟨[.vp (prC q p),.i .i64 k,.i .i64 1],[],[]⟩ K=K (.b (p.data k),[],[]):=by
  refine Zc (f:=153) rfl rfl (by decide) ?_
  have b:=h.sub
  have e:=fun K=>alz q p h K
  have w:=wrap_i64 (n:=p.su.blocks - 1) (by omega) (by omega)
  have c0:inI 1 1 256=true:=rfl
  have ed:p.data k=inI k (3+p.su.log) (p.su.blocks - 1):=by
    rw [Bool.eq_iff_iff];simp only [Pr.data,inI,Bool.and_eq_true,decide_eq_true_eq];omega
  rw [ed]
  cases c:inI k (3+p.su.log) (p.su.blocks - 1)
  · simp -implicitDefEqProofs [aaa,e,c0,c,w]
  · have b2:3+p.su.log≤k∧k≤p.su.blocks - 1:=by simpa [inI] using c
    have w2:=wrap_i64 (n:=k+1) (by omega) (by omega)
    have c2:k+1≤p.su.blocks:=by omega
    simp -implicitDefEqProofs [aaa,e,c0,c,w,w2,c2]
theorem Pr.data_bd {p:Pr} (h:p.Ok) {k:Int} (hk:p.data k=true):0≤k∧k≤255∧k<p.disk.blocks.length:=by
  have b:=h.sub
  have:=h.sb
  simp only [Pr.data,Bool.and_eq_true,decide_eq_true_eq] at hk
  omega
theorem aox (a:Bs) (k:Int) (ha:a.length=64) (hk:0≤k∧k≤255) (K:Out→Prop):Call prog 154 ⟨[.s a,.i .i64 k],[],[]⟩ K=K (.b (bitE a k),[],[]):=by
  refine Zc (f:=154) rfl rfl (by decide) ?_
  have d1:k.tdiv 8=k / 8:=Int.tdiv_eq_ediv_of_nonneg hk.1
  have d2:k.tmod 8=k % 8:=Int.tmod_eq_emod_of_nonneg hk.1
  have w1:=wrap_i64 (n:=k / 8) (by omega) (by omega)
  have w2:=wrap_i64 (n:=4+k / 8) (by omega) (by omega)
  have w3:=wrap_u64 (n:=k % 8) (by omega) (by omega)
  have c1:0≤4+k / 8:=by omega
  have c2:4+k / 8<64:=by omega
  have c3:¬ k % 8<0:=by omega
  have c4:(4+k / 8).toNat<a.length:=by omega
  simp -implicitDefEqProofs [d1,d2,w1,w2,w3,c1,c2,c3,ha,bitE]
theorem akf (q:Bool) (p:Pr) (h:p.Ok) (k:Int) (K:Out→Prop):Call prog 148 ⟨[.vp (prC q p),.i .i64 k],[],[]⟩ K=K (.b (p.alloc k),[],[]):=by
  refine Zc (f:=148) rfl rfl (by decide) ?_
  have e1:=fun K=>aov q p h k K
  have e2:=fun K=>aje q p h K
  have b:=h.sub
  have hb:=h.sb
  have e3:=fun K=>alt q p h (2+p.su.log) (by omega) K
  have ha:(p.get (2+p.su.log)).length=64:=p.area_len h
  unfold Pr.alloc Pr.area
  cases c:p.data k
  · simp -implicitDefEqProofs [e1,c]
  · have hk:=p.data_bd h c
    have d1:k.tdiv 8=k / 8:=Int.tdiv_eq_ediv_of_nonneg hk.1
    have d2:k.tmod 8=k % 8:=Int.tmod_eq_emod_of_nonneg hk.1
    have w1:=wrap_i64 (n:=k / 8) (by omega) (by omega)
    have w2:=wrap_i64 (n:=4+k / 8) (by omega) (by omega)
    have c1:0≤4+k / 8:=by omega
    have c2:4+k / 8<64:=by omega
    have c3:¬ k % 8<0:=by omega
    simp -implicitDefEqProofs [e1,e2,e3,c,d1,d2,w1,w2,c1,c2,c3,ha,bitE]
theorem ang (q:Bool) (p:Pr) (h:p.Ok) (k:Int) (K:Out→Prop):Call prog 129 ⟨[.vp (prC q p),.i .i64 k],[],[]⟩ K=K (.b (p.alloc k),[],[]):=by
  refine Zc (f:=129) rfl rfl (by decide) ?_
  have e1:=fun K=>anf q p h k K
  have e3:=fun K=>aij q p h K
  have ha:(p.get (2+p.su.log)).length=64:=p.area_len h
  unfold Pr.alloc Pr.area
  cases c:p.data k
  · simp -implicitDefEqProofs [e1,c]
  · have hk:=p.data_bd h c
    have e4:=fun K=>aox (p.get (2+p.su.log)) k ha ⟨hk.1,hk.2.1⟩ K
    simp -implicitDefEqProofs [e1,e3,e4,c]
end Go.VS
end
section
namespace Go.VS
structure Ms where
  kind:Int
  flags:Int
  data:Bs
  deriving Inhabited,DecidableEq
structure Hd where
  kind:Int
  refs:Int
  msgs:List Ms
def msV (m:Ms):V:=.agg [.i .i64 m.kind,.i .i64 m.flags,.s m.data]
@[simp] theorem msV_cells (m:Ms):(msV m).cells=[.i .i64 m.kind,.i .i64 m.flags,.s m.data]:=rfl
def msBad (m:Ms):Bool:=!(inI m.kind 1 9 && inI m.flags 0 255 && decide ((m.data.length:Int)≤200))
def Hd.ok (h:Hd):Bool:=inI h.kind 1 3 && inI h.refs 0 1000 && decide ((h.msgs.length:Int)≤24) && !(h.msgs.any msBad)
def rdMs (s:Bs) (bad:Bool):Ms × Bs × Bool:=
  let a:=dTake 1 s bad
  let b:=dTake 1 a.2.1 a.2.2
  let c:=dTake 1 b.2.1 b.2.2
  let d:=dTake (leI c.1).toNat c.2.1 c.2.2
  (⟨leI a.1,leI b.1,d.1⟩,d.2.1,d.2.2)
def rdMsgs:Nat→Bs→Bool→List Ms→List Ms × Bs × Bool
  | 0,s,bad,ms=>(ms,s,bad)
  | n+1,s,bad,ms=>if bad=true then (ms,s,bad) else rdMsgs n (rdMs s bad).2.1 (rdMs s bad).2.2 (ms++[(rdMs s bad).1])
def decHdr (s:Bs):Option Hd:=
  if s.length<4 then none else
  let x:=rdMsgs (leI ((s.drop 3).take 1)).toNat (s.drop 4) false []
  let h:Hd:=⟨leI (s.take 1),leI ((s.drop 1).take 2),x.1⟩
  if x.2.2=false∧x.2.1=[]∧h.ok=true then some h else none
theorem abc {s:Bs} {bad:Bool}:0≤leI (dTake 1 s bad).1∧leI (dTake 1 s bad).1≤255:=by
  have h1:=leI_bd (dTake 1 s bad).1
  have h2:=agm (n:=1) (s:=s) (bad:=bad)
  have:(256:Int) ^ (dTake 1 s bad).1.length≤256:=by
    rcases Nat.le_one_iff_eq_zero_or_eq_one.1 h2 with e | e <;> rw [e] <;> decide
  omega
end Go.VS
namespace Go.VS
theorem aa3:∀ (n:Nat) (s:Bs) (ms:List Ms),rdMsgs n s true ms=(ms,s,true)
  | 0,_,_=>rfl
  | _+1,_,_=>by simp [rdMsgs]
theorem amq (s:Bs):decHdr s=
    let a:=dTake 1 s false
    let b:=dTake 2 a.2.1 a.2.2
    let c:=dTake 1 b.2.1 b.2.2
    let x:=rdMsgs (leI c.1).toNat c.2.1 c.2.2 []
    let h:Hd:=⟨leI a.1,leI b.1,x.1⟩
    if x.2.2=false∧x.2.1=[]∧h.ok=true then some h else none:=by
  unfold decHdr
  match s with
  | []=>simp [dTake,aa3]
  | [k]=>simp [dTake,aa3]
  | [k,r0]=>simp [dTake,aa3]
  | [k,r0,r1]=>simp [dTake,aa3]
  | k :: r0 :: r1 :: z :: t=>simp [dTake];intro h;omega
end Go.VS
namespace Go.VS
def rAt (s:Bs) (n k:Nat):Nat:=if n≤s.length - k then k+n else k
theorem aaz {s:Bs} {n k:Nat} {bad:Bool}:s.drop (rAt s n k)=(dTake n (s.drop k) bad).2.1:=by
  unfold rAt dTake
  rw [List.length_drop]
  split
  · rw [List.drop_drop]
  · rfl
theorem rAt_le {s:Bs} {n k:Nat} (h:k≤s.length):rAt s n k≤s.length:=by
  unfold rAt;split <;> omega
end Go.VS
namespace Go.VS
def trimR (c:UInt8) (s:Bs):Bs:=(s.reverse.dropWhile (· == c)).reverse
theorem agn {α:Type} (p:α→Bool):∀ l:List α,l.dropWhile p=[] ↔ ∀ x,x ∈ l→p x=true
  | []=>by simp
  | a :: l=>by
    rw [List.dropWhile_cons]
    cases h:p a
    · simp [h]
    · simp [h,agn p l]
theorem ati (s:Bs):trimR 0 s=[] ↔ s=List.replicate s.length 0:=by
  unfold trimR
  rw [List.reverse_eq_nil_iff,agn,List.eq_replicate_iff]
  simp only [List.mem_reverse,beq_iff_eq,true_and]
def chN (pg:Bs):Int:=leI ((pg.drop 2).take 2)
def chX (pg:Bs):Int:=leI (pg.take 2)
def chainB (pg:Bs):Option (Int × Bs):=
  if inI (chN pg) 1 60=true∧trimR 0 (pg.drop (4+(chN pg).toNat))=[]∧(chN pg=60∨chX pg=0) then some (chX pg,(pg.drop 4).take (chN pg).toNat) else none
def chainF (p:Pr):Nat→Int→List Int→Bs→Option (List Int × Bs)
  | 0,_,_,_=>none
  | f+1,k,bl,fm=>if p.alloc k=true∧¬ k ∈ bl then match chainB (p.get k) with
      | none=>none
      | some x=>if x.1=0 then some (bl++[k],fm++x.2) else chainF p f x.1 (bl++[k]) (fm++x.2)
    else none
theorem chX_bd {pg:Bs}:0≤chX pg∧chX pg≤65535:=by
  have:=leI_bd (pg.take 2)
  have h:(pg.take 2).length≤2:=by rw [List.length_take];omega
  have h2:(256:Int) ^ (pg.take 2).length≤65536:=by
    generalize (pg.take 2).length=n at h
    match n,h with
    | 0,_=>decide
    | 1,_=>decide
    | 2,_=>decide
  unfold chX
  omega
theorem chN_bd {pg:Bs}:0≤chN pg∧chN pg≤65535:=by
  have:=chX_bd (pg:=pg.drop 2)
  exact this
theorem aqy {pg:Bs} {x:Int × Bs} (h:chainB pg=some x):x.2.length≤60∧0≤x.1∧x.1≤65535:=by
  unfold chainB at h
  split at h
  · rename_i c
    cases h
    have:=chX_bd (pg:=pg)
    simp only [inI,decide_eq_true_eq] at c
    refine ⟨?_,this⟩
    rw [List.length_take]
    omega
  · cases h
theorem aql:∀ (n:Nat) (l:List Int),l.Nodup→(∀ x,x ∈ l→0≤x∧x<n)→l.length≤n
  | 0,l,_,h=>by
    cases l with
    | nil=>simp
    | cons a l=>have:=h a (by simp);omega
  | n+1,l,hn,h=>by
    have h1:=aql n (l.erase (n:Int)) (hn.erase _) fun x hx=>by
      have:=(List.Nodup.mem_erase_iff hn).1 hx
      have h2:=h x this.2
      have h3:x≠(n:Int):=this.1
      omega
    by_cases hm:(n:Int) ∈ l
    · rw [List.length_erase_of_mem hm] at h1;omega
    · rw [List.erase_of_not_mem hm] at h1;omega
def rowI (l:List Int):Rw:=.row 1 false (l.map (V.i .i64))
def chainOut (p:Pr) (k:Int):Out:=
  match chainF p 257 k [] [] with
  | none=>(.tup [.nil,.agg [.i .i64 0,.i .i64 0,.nil],.b false],[],[])
  | some (bl,fm)=>match decHdr fm with
    | none=>(.tup [.sl 0 0 bl.length false,.agg [.i .i64 0,.i .i64 0,.nil],.b false],[],[.row 1 false (bl.map (V.i .i64))])
    | some h=>(.tup [.sl 0 0 bl.length false,.agg [.i .i64 h.kind,.i .i64 h.refs,.sl 1 0 h.msgs.length false],.b true],[],[.row 1 false (bl.map (V.i .i64)),.row 3 false (h.msgs.map msV)])
theorem ala:∀ n:Nat,vbytes (List.replicate n (V.i .u8 0))=some (List.replicate n 0)
  | 0=>rfl
  | n+1=>by rw [List.replicate_succ,vbytes,ala n];rfl
end Go.VS
namespace Go.VS
def Pr.hdr (p:Pr) (k:Int):Option Hd:=
  match chainF p 257 k [] [] with
  | none=>none
  | some x=>decHdr x.2
def hdrOut (p:Pr) (k:Int):Out:=
  match p.hdr k with
  | none=>(.tup [.agg [.i .i64 0,.i .i64 0,.nil],.i .i64 10],[],[])
  | some h=>(.tup [.agg [.i .i64 h.kind,.i .i64 h.refs,.sl 0 0 h.msgs.length false],.i .i64 0],[],[.row 3 false (h.msgs.map msV)])
def isK (k:Int) (m:Ms):Bool:=decide (m.kind=k)
def onlyW (k:Int):List Ms→Nat→Int→Int
  | [],_,at_=>at_
  | m :: ms,i,at_=>if isK k m=false then onlyW k ms (i+1) at_ else if 0≤at_∨m.flags≠0 then -1 else onlyW k ms (i+1) i
def onlyX (ms:List Ms) (k:Int):Int:=if idxF (isK k) ms 0<0∨(ms.getD (idxF (isK k) ms 0).toNat default).flags≠0 then 0 else idxF (isK k) ms 0
def onlyB (ms:List Ms) (k:Int):Bool:=if idxF (isK k) ms 0<0∨(ms.getD (idxF (isK k) ms 0).toNat default).flags≠0 then false else !((ms.drop ((idxF (isK k) ms 0).toNat+1)).any (isK k))
theorem ann (k:Int):∀ (l:List Ms) (i:Nat) (a:Int),0≤a→onlyW k l i a=if l.any (isK k) then -1 else a
  | [],_,_,_=>rfl
  | m :: l,i,a,ha=>by
    rw [onlyW,List.any_cons]
    cases h:isK k m
    · simp only [if_true,Bool.false_or];exact ann k l (i+1) a ha
    · simp [ha]
theorem ahz {α:Type} (pr:α→Bool):∀ (l:List α) (i:Nat),idxF pr l (i+1)=if idxF pr l 0<0 then -1 else idxF pr l 0+(i+1)
  | [],i=>by simp [idxF]
  | x :: l,i=>by
    rw [idxF,idxF]
    split
    · simp
    · have h1:=ahz pr l (i+1)
      have h2:=ahz pr l 0
      rw [h1,h2]
      split
      · rfl
      · rename_i h
        rw [if_neg (by omega)]
        push_cast;omega
theorem aqp (k:Int):∀ (l:List Ms) (i:Nat),onlyW k l i (-1)=if onlyB l k=true then onlyX l k+i else -1
  | [],i=>by simp [onlyW,onlyB,idxF]
  | m :: l,i=>by
    rw [onlyW]
    cases h:isK k m
    · simp only [if_true]
      rw [aqp k l (i+1)]
      have hs:=ahz (isK k) l 0
      have e:idxF (isK k) (m :: l) 0=idxF (isK k) l (0+1):=by rw [idxF,h];rfl
      unfold onlyB onlyX
      rw [e,hs]
      by_cases h1:idxF (isK k) l 0<0
      · simp [h1]
      · have h2:(idxF (isK k) l 0+((0:Nat)+1)).toNat=(idxF (isK k) l 0).toNat+1:=by omega
        rw [if_neg h1]
        have h3:¬ (idxF (isK k) l 0+((0:Nat)+1))<0:=by omega
        simp only [h1,h3,h2,List.getD_cons_succ,List.drop_succ_cons,false_or]
        generalize (l.getD (idxF (isK k) l 0).toNat default).flags=fl
        by_cases h4:fl=0
        · simp only [ne_eq,h4,not_true_eq_false,if_false]
          split
          · push_cast;omega
          · rfl
        · simp [h4]
    · have e:idxF (isK k) (m :: l) 0=0:=by rw [idxF,h];rfl
      unfold onlyB onlyX
      rw [e]
      by_cases h4:m.flags≠0
      · simp [h4]
      · have h5:m.flags=0:=Decidable.not_not.1 h4
        simp only [h5]
        simp
        rw [ann k l (i+1) i (by omega)]
        cases h6:l.any (isK k)
        · have h7:∀ x,x ∈ l→isK k x=false:=by simpa using h6
          simp
          exact ⟨h5,h7⟩
        · have h7:∃ x,x ∈ l∧isK k x=true:=by simpa using h6
          obtain ⟨x,hx,hx2⟩:=h7
          simp
          exact fun _=>⟨x,hx,hx2⟩
theorem aub {ms:List Ms} {k:Int} (h:onlyB ms k=true):∃ j:Nat,onlyX ms k=j∧j<ms.length:=by
  have hf:=ae0 (isK k) ms 0
  unfold onlyB at h
  unfold onlyX
  split at h
  · cases h
  · rename_i hc
    rw [if_neg hc]
    cases e:ms.find? (isK k) with
    | none=>rw [e] at hf;simp only at hf;rw [hf] at hc;omega
    | some x=>
      rw [e] at hf
      obtain ⟨j,h1,h2⟩:=hf
      exact ⟨j,by rw [h1];omega,(List.getElem?_eq_some_iff.1 h2).1⟩
end Go.VS
namespace Go.VS
def isLet (c:UInt8):Bool:=(decide ((65:Int)≤c.toNat) && decide ((c.toNat:Int)≤90)) || (decide ((97:Int)≤c.toNat) && decide ((c.toNat:Int)≤122))
def isDig (c:UInt8):Bool:=decide ((48:Int)≤c.toNat) && decide ((c.toNat:Int)≤57)
def isRest (c:UInt8):Bool:=isLet c || isDig c || decide ((c.toNat:Int)=95)
def chBad (s:Bs) (i:Nat):Bool:=if i=0 then !isLet (s.getD 0 0) else !isRest (s.getD i 0)
def isName (s:Bs):Bool:=!(anyFrom (chBad s) 0 s.length) && (decide ((1:Int)≤s.length) && decide ((s.length:Int)≤12))
def heapBad (s:Bs):Bool:=decide (s≠[]) && !isName s
def heapOk (l:List Bs):Bool:=decide ((l.length:Int)≤30) && (decide (l=[]) || decide (l.getD (l.length - 1) []≠[])) && !(l.any heapBad)
def heapUsed (l:List Bs) (k:Int):Bool:=inI k 0 (l.length - 1) && decide (l.getD k.toNat []≠[])
end Go.VS
namespace Go.VS
def rdNm (s:Bs) (bad:Bool):Bs × Bs × Bool:=
  let c:=dTake 1 s bad
  dTake (leI c.1).toNat c.2.1 c.2.2
def rdNms:Nat→Bs→Bool→List Bs→List Bs × Bs × Bool
  | 0,s,bad,ls=>(ls,s,bad)
  | n+1,s,bad,ls=>if bad=true then (ls,s,bad) else rdNms n (rdNm s bad).2.1 (rdNm s bad).2.2 (ls++[(rdNm s bad).1])
theorem anx:∀ (n:Nat) (s:Bs) (ls:List Bs),rdNms n s true ls=(ls,s,true)
  | 0,_,_=>rfl
  | _+1,_,_=>by simp [rdNms]
def decHeap (s:Bs):Option (List Bs):=
  let c:=dTake 1 s false
  let x:=rdNms (leI c.1).toNat c.2.1 c.2.2 []
  if x.2.2=false∧x.2.1=[]∧heapOk x.1=true then some x.1 else none
def heapOut (s:Bs):Out:=match decHeap s with
  | some l=>(.tup [.agg [.sl 0 0 l.length false],.b true],[],[.row 1 false (l.map .s)])
  | none=>(.tup [.agg [.nil],.b false],[],[])
end Go.VS
end
section
namespace Go.VS
theorem att (s:Bs) (n:Nat) (hs:s.length≤lim) (hn:n≤4294967296) (K:Out→Prop):Call prog 170 ⟨[.s s,.i .i64 0,.i .i64 n],[],[]⟩ K=K (.tup [.s (dTake n s false).1,.b (!(dTake n s false).2.2)],[],[]):=by
  refine Zc (f:=170) rfl rfl (by decide) ?_
  unfold lim at hs
  have w:=wrap_i64 (n:=(s.length:Int) - n) (by omega) (by omega)
  have w2:=wrap_i64 (n:=(n:Int)) (by omega) (by omega)
  have c0:¬ (n:Int)<0:=by omega
  unfold dTake
  by_cases h:n≤s.length
  · have c:inI 0 0 ((s.length:Int) - n)=true:=by simp [inI];omega
    simp -implicitDefEqProofs [c0,w,w2,aab,c,h]
  · have c:inI 0 0 ((s.length:Int) - n)=false:=by simp [inI];omega
    simp -implicitDefEqProofs [c0,w,aab,c,h]
theorem ads (s:Bs) (bad:Bool) (n:Nat) (hs:s.length≤lim) (hn:n≤4294967296) (K:Out→Prop):
    Call prog 160 ⟨[.ptr 0 0,.i .i64 n],[[.s s,.b bad]],[]⟩ K=K (.s (dTake n s bad).1,[[.s (dTake n s bad).2.1,.b (dTake n s bad).2.2]],[]):=by
  refine Zc (f:=160) rfl rfl (by decide) ?_
  have e:=fun K=>att s n hs hn K
  unfold dTake at *
  by_cases h:n≤s.length
  · simp -implicitDefEqProofs [e,h]
  · simp -implicitDefEqProofs [e,h]
theorem abi (s:Bs) (bad:Bool) (n:Nat) (hs:s.length≤lim) (hn:n≤6) (K:Out→Prop):
    Call prog 159 ⟨[.ptr 0 0,.i .i64 n],[[.s s,.b bad]],[]⟩ K=K (.i .i64 (leI (dTake n s bad).1),[[.s (dTake n s bad).2.1,.b (dTake n s bad).2.2]],[]):=by
  refine Zc (f:=159) rfl rfl (by decide) ?_
  have e:=fun K=>ads s bad n hs (by omega) K
  have hl:=agm (n:=n) (s:=s) (bad:=bad)
  have e2:=fun K=>aig (dTake n s bad).1 (by omega) K
  have hb:=leI_bd (dTake n s bad).1
  have h6:=apk (i:=(dTake n s bad).1.length) (by omega)
  have w:=wrap_i64 (n:=leI (dTake n s bad).1) (by omega) (by omega)
  simp -implicitDefEqProofs [e,e2,w]
theorem aa6 (s:Bs) (bad:Bool) (hs:s.length≤lim) (K:Out→Prop):
    Call prog 139 ⟨[.ptr 0 0],[[.s s,.b bad]],[]⟩ K=K (.i .i64 (leI (dTake 1 s bad).1),[[.s (dTake 1 s bad).2.1,.b (dTake 1 s bad).2.2]],[]):=by
  refine Zc (f:=139) rfl rfl (by decide) ?_
  have e:=fun K=>abi s bad 1 hs (by omega) K
  simp only [Int.cast_ofNat_Int,Int.natCast_one] at e
  simp -implicitDefEqProofs [e]
theorem ahp (s:Bs) (c:UInt8) (hs:s.length≤lim) (K:Out→Prop):Call prog 173 ⟨[.s s,.i .u8 c.toNat],[],[]⟩ K=K (.s (trimR c s),[],[]):=by
  refine Zc (f:=173) rfl rfl (by decide) ?_
  unfold lim at hs
  simp -implicitDefEqProofs
  refine WL_st (α:=Bs) (fun x=>⟨sp 23 [(0,.s x),(1,.i .u8 c.toNat)],[],[]⟩) (fun x=>x.length) (fun x=>x.length≤1073741824∧trimR c s=trimR c x) s _ (by simp -implicitDefEqProofs) ⟨hs,rfl⟩ ?_
  rintro x ⟨hx,he⟩
  rw [he]
  rcases List.eq_nil_or_concat x with rfl | ⟨l,b,rfl⟩
  · simp -implicitDefEqProofs [trimR]
  · have hlen:(l.concat b).length=l.length+1:=by simp
    rw [hlen] at hx
    have w:=wrap_i64 (n:=(l.length:Int)) (by omega) (by omega)
    have c1:(0:Int)<(l.length:Int)+1:=by omega
    have c2:(l.length:Int)<(l.length:Int)+1:=by omega
    have c3:(l.length:Int)≤(l.length:Int)+1:=by omega
    have e1:(l++[b])[l.length]?.getD 0=b:=by simp
    by_cases hb:b=c
    · subst hb
      simp -implicitDefEqProofs [w,c1,c2,c3,e1]
      exact NextS.mk l ⟨by omega,by simp [trimR]⟩ (by simp) rfl
    · have hb':¬ (b.toNat:Int)=c.toNat:=by
        intro h;exact hb (UInt8.toNat_inj.1 (by omega))
      have hb'':¬ b.toNat=c.toNat:=fun h=>hb (UInt8.toNat_inj.1 h)
      simp -implicitDefEqProofs [w,c1,c2,e1,hb',hb'',hb,trimR]
theorem aiv (s:Bs) (hs:s.length≤lim) (K:Out→Prop):Call prog 167 ⟨[.s s],[],[]⟩ K=K (.s (trimR 0 s),[],[]):=by
  have e:∀ K,Call prog 171 ⟨[.s s,.s [0]],[],[]⟩ K=K (.s (trimR 0 s),[],[]):=by
    intro K
    refine Zc (f:=171) rfl rfl (by decide) ?_
    have e1:=fun K=>ahp s 0 hs K
    by_cases h:s=[]
    · subst h
      simp -implicitDefEqProofs [trimR]
    · have e2:(0:UInt8).toNat=0:=rfl
      rw [e2] at e1
      simp only [Int.cast_ofNat_Int,Int.natCast_zero] at e1
      simp -implicitDefEqProofs [h,e1]
  refine Zc (f:=167) rfl rfl (by decide) ?_
  simp -implicitDefEqProofs [e]
end Go.VS
end
section
namespace Go.VS
theorem akq (m:Ms) (K:Out→Prop):Call prog 177 ⟨[msV m],[],[]⟩ K=K (.b (!msBad m),[],[]):=by
  refine Zc (f:=177) rfl rfl (by decide) ?_
  cases c1:inI m.kind 1 9 <;> cases c2:inI m.flags 0 255 <;> simp -implicitDefEqProofs [msV,aab,c1,c2,msBad]
theorem auk (m:Ms) (K:Out→Prop):Call prog 172 ⟨[msV m],[],[]⟩ K=K (.b (msBad m),[],[]):=by
  refine Zc (f:=172) rfl rfl (by decide) ?_
  have e:=fun K=>akq m K
  simp only [msV] at e
  simp -implicitDefEqProofs [msV,e]
theorem cfMs (pr:Ms→Bool) (g:Nat) (caps:List V) (q:Bool) (xs:List Ms) (hl:xs.length≤lim) (hcap:capsOk caps=true)
    (hc:∀ x,x ∈ xs→∀ K:Out→Prop,Call prog g ⟨msV x :: caps,[],[]⟩ K=K (.b (pr x),[],[])) (K:Out→Prop):
    Call prog 138 ⟨[.view q 3 (xs.map msV),.fn g caps],[],[]⟩ K=K (.b (xs.any pr),[],[]):=
  ai2 (p:=prog) (f:=138) (ix:=158) (z:=3) (ag:=true) rfl rfl msV pr g caps q xs hl hcap (fun x=>by simp [msV]) (fun s x=>by simp [msV]) hc K
theorem ixMs (pr:Ms→Bool) (g:Nat) (caps:List V) (q:Bool) (xs:List Ms) (hl:xs.length≤lim) (hcap:capsOk caps=true)
    (hc:∀ x,x ∈ xs→∀ K:Out→Prop,Call prog g ⟨msV x :: caps,[],[]⟩ K=K (.b (pr x),[],[])) (K:Out→Prop):
    Call prog 158 ⟨[.view q 3 (xs.map msV),.fn g caps],[],[]⟩ K=K (.i .i64 (idxF pr xs 0),[],[]):=
  alw (p:=prog) (f:=158) (z:=3) (ag:=true) rfl msV pr g caps q xs hl hcap (fun x=>by simp [msV]) (fun s x=>by simp [msV]) hc K
theorem aix (q:Bool) (h:Hd) (hl:h.msgs.length≤lim) (K:Out→Prop):Call prog 168 ⟨[.agg [.i .i64 h.kind,.i .i64 h.refs,.view q 3 (h.msgs.map msV)]],[],[]⟩ K=K (.b h.ok,[],[]):=by
  refine Zc (f:=168) rfl rfl (by decide) ?_
  have e:=fun K=>cfMs msBad 172 [] q h.msgs hl rfl (fun x _=>auk x) K
  unfold Hd.ok
  cases c1:inI h.kind 1 3
  · simp -implicitDefEqProofs [aab,c1]
  cases c2:inI h.refs 0 1000
  · simp -implicitDefEqProofs [aab,c1,c2]
  by_cases c3:(h.msgs.length:Int)≤24 <;> simp -implicitDefEqProofs [aab,c1,c2,c3,e]
theorem aq9 (q:Bool) (h:Hd) (hl:h.msgs.length≤lim) (K:Out→Prop):Call prog 156 ⟨[.agg [.i .i64 h.kind,.i .i64 h.refs,.view q 3 (h.msgs.map msV)]],[],[]⟩ K=K (.b h.ok,[],[]):=by
  refine Zc (f:=156) rfl rfl (by decide) ?_
  unfold lim at hl
  unfold Hd.ok
  cases c1:inI h.kind 1 3
  · simp -implicitDefEqProofs [aaa,c1]
  cases c2:inI h.refs 0 1000
  · simp -implicitDefEqProofs [aaa,c1,c2]
  by_cases c3:(24:Int)<h.msgs.length
  · have c3':¬ (h.msgs.length:Int)≤24:=by omega
    simp -implicitDefEqProofs [aaa,c1,c2,c3,c3']
  have c3':(h.msgs.length:Int)≤24:=by omega
  simp -implicitDefEqProofs [aaa,c1,c2,c3,c3']
  refine WL_for (fun i=>⟨sp 49 [(1,.ptr 0 0),(3,.i .i64 i)],[[.i .i64 h.kind,.i .i64 h.refs,.view q 3 (h.msgs.map msV)]],[]⟩) h.msgs.length (fun i=>h.msgs.any msBad=(h.msgs.drop i).any msBad) _ (by simp -implicitDefEqProofs) (by simp) ?_
  intro i hi hP
  by_cases hlt:i<h.msgs.length
  · have hw:=wrap_i64 (n:=(i:Int)+1) (by omega) (by omega)
    rw [hP,afa hlt]
    cases d1:inI h.msgs[i].kind 1 9 <;> cases d2:inI h.msgs[i].flags 0 255 <;> by_cases d3:(200:Int)<h.msgs[i].data.length <;>
      (first
        | (have d3':¬ (h.msgs[i].data.length:Int)≤200:=by omega
           simp -implicitDefEqProofs [hlt,msV,aaa,d1,d2,d3,d3',msBad,hw,Next])
        | (have d3':(h.msgs[i].data.length:Int)≤200:=by omega
           simp -implicitDefEqProofs [hlt,msV,aaa,d1,d2,d3,d3',msBad,hw,Next]))
  · rw [hP,ahu (by omega)]
    simp -implicitDefEqProofs [hlt]
theorem ahs (s:Bs) (hs:s.length≤lim) (K:Out→Prop):Call prog 152 ⟨[.s s],[],[]⟩ K=
    K (match decHdr s with
      | some h=>(.tup [.agg [.i .i64 h.kind,.i .i64 h.refs,.sl 0 0 h.msgs.length false],.b true],[],[.row 3 false (h.msgs.map msV)])
      | none=>(.tup [.agg [.i .i64 0,.i .i64 0,.nil],.b false],[],[])):=by
  refine Zc (f:=152) rfl rfl (by decide) ?_
  obtain ⟨a,ha⟩:∃ a,a=dTake 1 s false:=⟨_,rfl⟩
  obtain ⟨b,hb⟩:∃ b,b=dTake 2 a.2.1 a.2.2:=⟨_,rfl⟩
  obtain ⟨c,hc⟩:∃ c,c=dTake 1 b.2.1 b.2.2:=⟨_,rfl⟩
  have la:a.2.1.length≤s.length:=by rw [ha];exact aal
  have lb:b.2.1.length≤a.2.1.length:=by rw [hb];exact aal
  have lc:c.2.1.length≤b.2.1.length:=by rw [hc];exact aal
  have e1:=fun K=>aa6 s false hs K
  rw [← ha] at e1
  have e2:=fun K=>abi a.2.1 a.2.2 2 (by omega) (by omega) K
  rw [← hb] at e2
  simp only [Int.cast_ofNat_Int] at e2
  have e3:=fun K=>aa6 b.2.1 b.2.2 (by omega) K
  rw [← hc] at e3
  have hn:∃ n:Nat,leI c.1=n∧n≤255:=by
    have:=abc (s:=b.2.1) (bad:=b.2.2)
    rw [← hc] at this
    exact ⟨(leI c.1).toNat,by omega,by omega⟩
  obtain ⟨n,hn,hn2⟩:=hn
  have hd:=amq s
  simp only [← ha,← hb,← hc,hn,Int.toNat_natCast] at hd
  simp -implicitDefEqProofs [e1,e2,e3,hn]
  refine WL_st (α:=Nat × Bs × Bool × List Ms) (fun x=>⟨sp 60 [(2,.ptr 0 0),(4,.ptr 1 0),(5,.ptr 2 0),(6,.i .i64 x.1)],[[.i .i64 0,.i .i64 0,.nil],[.s x.2.1,.b x.2.2.1],[.i .i64 (leI a.1),.i .i64 (leI b.1),.sl 0 0 x.2.2.2.length false]],[.row 3 false (x.2.2.2.map msV)]⟩)
    (fun x=>x.1) (fun x=>rdMsgs n c.2.1 c.2.2 []=rdMsgs x.1 x.2.1 x.2.2.1 x.2.2.2∧x.2.1.length≤lim∧x.2.2.2.length+x.1≤255) (n,c.2.1,c.2.2,[]) _ (by simp -implicitDefEqProofs) ⟨rfl,by simp only;omega,by simpa using hn2⟩ ?_
  rintro ⟨k,t,bad,ms⟩ ⟨hP,ht,hm⟩
  simp only at hP ht hm
  rw [hP] at hd
  have e4:=fun K=>aix false ⟨leI a.1,leI b.1,ms⟩ (by simp only;unfold lim;omega) K
  cases k with
  | zero=>
    simp only [rdMsgs] at hd
    rw [hd]
    cases bad with
    | true=>simp -implicitDefEqProofs
    | false=>
      by_cases h2:t=[]
      · by_cases h3:(Hd.mk (leI a.1) (leI b.1) ms).ok=true <;> simp -implicitDefEqProofs [h2,h3,e4]
      · simp -implicitDefEqProofs [h2]
  | succ k=>
    cases bad with
    | true=>
      rw [aa3] at hd
      rw [hd]
      have c1:(0:Int)<(k:Int)+1:=by omega
      simp -implicitDefEqProofs [c1]
    | false=>
      obtain ⟨a',ha'⟩:∃ a',a'=dTake 1 t false:=⟨_,rfl⟩
      obtain ⟨b',hb'⟩:∃ b',b'=dTake 1 a'.2.1 a'.2.2:=⟨_,rfl⟩
      obtain ⟨c',hc'⟩:∃ c',c'=dTake 1 b'.2.1 b'.2.2:=⟨_,rfl⟩
      obtain ⟨z,hz,hz2⟩:∃ z:Nat,leI c'.1=z∧z≤255:=by
        have:=abc (s:=b'.2.1) (bad:=b'.2.2)
        rw [← hc'] at this
        exact ⟨(leI c'.1).toNat,by omega,by omega⟩
      obtain ⟨d',hd'⟩:∃ d',d'=dTake z c'.2.1 c'.2.2:=⟨_,rfl⟩
      have la':a'.2.1.length≤t.length:=by rw [ha'];exact aal
      have lb':b'.2.1.length≤a'.2.1.length:=by rw [hb'];exact aal
      have lc':c'.2.1.length≤b'.2.1.length:=by rw [hc'];exact aal
      have ld':d'.2.1.length≤c'.2.1.length:=by rw [hd'];exact aal
      have f1:=fun K=>aa6 t false ht K
      rw [← ha'] at f1
      have f2:=fun K=>aa6 a'.2.1 a'.2.2 (by omega) K
      rw [← hb'] at f2
      have f3:=fun K=>aa6 b'.2.1 b'.2.2 (by omega) K
      rw [← hc'] at f3
      have f4:=fun K=>ads c'.2.1 c'.2.2 z (by omega) (by omega) K
      rw [← hd'] at f4
      have hr:rdMs t false=(⟨leI a'.1,leI b'.1,d'.1⟩,d'.2.1,d'.2.2):=by
        unfold rdMs
        simp only [← ha',← hb',← hc',hz,Int.toNat_natCast,← hd']
      have c1:(0:Int)<(k:Int)+1:=by omega
      have c2:ms.length+1≤lim:=by unfold lim;omega
      have w:IntKind.i64.wrap (k:Int)=k:=wrap_i64 (by omega) (by omega)
      simp -implicitDefEqProofs [c1,f1,f2,f3,hz,f4,c2,w]
      refine NextS.mk (k,d'.2.1,d'.2.2,ms++[⟨leI a'.1,leI b'.1,d'.1⟩]) ⟨?_,by simp only;omega,by simp;omega⟩ (by simp) ?_
      · rw [hP,rdMsgs,hr];rfl
      · simp [msV]
end Go.VS
end
section
namespace Go.VS
theorem aat (s:Bs) (k:Nat) (bad:Bool) (hs:s.length≤lim) (hk:k≤s.length) (K:Out→Prop):
    Call prog 103 ⟨[.ptr 0 0],[[.s s,.i .i64 k,.b bad]],[]⟩ K=K (.i .i64 (leI (dTake 1 (s.drop k) bad).1),[[.s s,.i .i64 (rAt s 1 k),.b (dTake 1 (s.drop k) bad).2.2]],[]):=by
  refine Zc (f:=103) rfl rfl (by decide) ?_
  unfold lim at hs
  by_cases h:k<s.length
  · have c1:¬ (s.length:Int)≤k:=by omega
    have w1:=wrap_i64 (n:=(k:Int)+1) (by omega) (by omega)
    have w2:=wrap_i64 (n:=(k:Int)) (by omega) (by omega)
    have hd:s.drop k=s[k] :: s.drop (k+1):=List.drop_eq_getElem_cons h
    have hb:=s[k].toNat_lt
    have w3:=wrap_i64 (n:=(s[k].toNat:Int)) (by omega) (by omega)
    have e1:dTake 1 (s.drop k) bad=([s[k]],s.drop (k+1),bad):=by
      have:∀ (x:UInt8) (t:Bs),dTake 1 (x :: t) bad=([x],t,bad):=by intros;simp [dTake]
      rw [hd,this]
    have e2:rAt s 1 k=k+1:=by unfold rAt;rw [if_pos (by omega)]
    have c2:¬ s.length≤k:=by omega
    rw [e1,e2]
    simp -implicitDefEqProofs [c1,c2,w1,w2,w3,h,leI]
  · have c1:(s.length:Int)≤k:=by omega
    have c2:s.length≤k:=by omega
    have e1:dTake 1 (s.drop k) bad=([],s.drop k,true):=by
      rw [List.drop_of_length_le c2];simp [dTake]
    have e2:rAt s 1 k=k:=by unfold rAt;rw [if_neg (by omega)]
    rw [e1,e2]
    simp -implicitDefEqProofs [c1,c2,leI]
theorem afe (s:Bs) (k n:Nat) (bad:Bool) (hs:s.length≤lim) (hk:k≤s.length) (hn:n≤4294967296) (K:Out→Prop):
    Call prog 104 ⟨[.ptr 0 0,.i .i64 n],[[.s s,.i .i64 k,.b bad]],[]⟩ K=K (.s (dTake n (s.drop k) bad).1,[[.s s,.i .i64 (rAt s n k),.b (dTake n (s.drop k) bad).2.2]],[]):=by
  refine Zc (f:=104) rfl rfl (by decide) ?_
  unfold lim at hs
  have c0:¬ (n:Int)<0:=by omega
  have w1:=wrap_i64 (n:=(s.length:Int) - k) (by omega) (by omega)
  have w2:=wrap_i64 (n:=(s.length:Int) - (k:Int)) (by omega) (by omega)
  by_cases h:n≤s.length - k
  · have c1:¬ (s.length:Int) - k<n:=by omega
    have w3:=wrap_i64 (n:=(k:Int)+n) (by omega) (by omega)
    have w4:IntKind.i64.wrap ((k:Int)+n - n)=k:=by rw [wrap_i64 (by omega) (by omega)];omega
    have w5:IntKind.i64.wrap (k:Int)=k:=wrap_i64 (by omega) (by omega)
    have w6:IntKind.i64.wrap (n:Int)=n:=wrap_i64 (by omega) (by omega)
    have e1:dTake n (s.drop k) bad=((s.drop k).take n,(s.drop k).drop n,bad):=by unfold dTake;rw [List.length_drop,if_pos h]
    have e2:rAt s n k=k+n:=by unfold rAt;rw [if_pos h]
    have c2:(0:Int)≤(k:Int)+n:=by omega
    have c3:(k:Int)≤(k:Int)+n:=by omega
    have c4:(k:Int)+n≤s.length:=by omega
    have t1:((k:Int)+n).toNat=k+n:=by omega
    rw [e1,e2]
    simp -implicitDefEqProofs [c0,c1,w1,w3,w4,w5,w6,c2,c3,c4,t1]
    rw [List.drop_take];congr 1;omega
  · have c1:(s.length:Int) - k<n:=by omega
    have e1:dTake n (s.drop k) bad=([],s.drop k,true):=by unfold dTake;rw [List.length_drop,if_neg h]
    have e2:rAt s n k=k:=by unfold rAt;rw [if_neg h]
    rw [e1,e2]
    simp -implicitDefEqProofs [c0,c1,w1]
theorem ahl (s:Bs) (hs:s.length≤lim) (K:Out→Prop):Call prog 131 ⟨[.s s],[],[]⟩ K=
    K (match decHdr s with
      | some h=>(.tup [.agg [.i .i64 h.kind,.i .i64 h.refs,.sl 0 0 h.msgs.length false],.b true],[],[.row 3 false (h.msgs.map msV)])
      | none=>(.tup [.agg [.i .i64 0,.i .i64 0,.nil],.b false],[],[])):=by
  refine Zc (f:=131) rfl rfl (by decide) ?_
  obtain ⟨a,ha⟩:∃ a,a=dTake 1 s false:=⟨_,rfl⟩
  obtain ⟨b,hb⟩:∃ b,b=dTake 1 a.2.1 a.2.2:=⟨_,rfl⟩
  obtain ⟨b2,hb2⟩:∃ b2,b2=dTake 1 b.2.1 b.2.2:=⟨_,rfl⟩
  obtain ⟨c,hc⟩:∃ c,c=dTake 1 b2.2.1 b2.2.2:=⟨_,rfl⟩
  have q0:=rAt_le (s:=s) (n:=1) (k:=0) (by omega)
  have q1:=rAt_le (s:=s) (n:=1) (k:=rAt s 1 0) q0
  have q2:=rAt_le (s:=s) (n:=1) (k:=rAt s 1 (rAt s 1 0)) q1
  have q3:=rAt_le (s:=s) (n:=1) (k:=rAt s 1 (rAt s 1 (rAt s 1 0))) q2
  have r1:s.drop (rAt s 1 0)=a.2.1:=by rw [aaz (bad:=false),ha];rfl
  have r2:s.drop (rAt s 1 (rAt s 1 0))=b.2.1:=by rw [aaz (bad:=a.2.2),hb,r1]
  have r3:s.drop (rAt s 1 (rAt s 1 (rAt s 1 0)))=b2.2.1:=by rw [aaz (bad:=b.2.2),hb2,r2]
  have r4:s.drop (rAt s 1 (rAt s 1 (rAt s 1 (rAt s 1 0))))=c.2.1:=by rw [aaz (bad:=b2.2.2),hc,r3]
  have e1:=fun K=>aat s 0 false hs (by omega) K
  rw [List.drop_zero,← ha] at e1
  simp only [Int.natCast_zero] at e1
  have e2:=fun K=>aat s (rAt s 1 0) a.2.2 hs q0 K
  rw [r1,← hb] at e2
  have e3:=fun K=>aat s _ b.2.2 hs q1 K
  rw [r2,← hb2] at e3
  have e4:=fun K=>aat s _ b2.2.2 hs q2 K
  rw [r3,← hc] at e4
  generalize rAt s 1 0=k1 at *
  generalize rAt s 1 k1=k2 at *
  generalize rAt s 1 k2=k3 at *
  generalize rAt s 1 k3=k4 at *
  have hn:∃ n:Nat,leI c.1=n∧n≤255:=by
    have:=abc (s:=b2.2.1) (bad:=b2.2.2)
    rw [← hc] at this
    exact ⟨(leI c.1).toNat,by omega,by omega⟩
  obtain ⟨n,hn,hn2⟩:=hn
  have hbb:=abc (s:=a.2.1) (bad:=a.2.2)
  rw [← hb] at hbb
  have hbb2:=abc (s:=b.2.1) (bad:=b.2.2)
  rw [← hb2] at hbb2
  have w1:=wrap_i64 (n:=256*leI b2.1) (by omega) (by omega)
  have w2:=wrap_i64 (n:=leI b.1+256*leI b2.1) (by omega) (by omega)
  have hd:decHdr s=let x:=rdMsgs n c.2.1 c.2.2 [];let h:Hd:=⟨leI a.1,leI b.1+256*leI b2.1,x.1⟩;if x.2.2=false∧x.2.1=[]∧h.ok=true then some h else none:=by
    rw [show n=(leI c.1).toNat by omega,hc,hb2,hb,ha]
    unfold decHdr
    match s with
    | []=>simp [dTake,aa3]
    | [k]=>simp [dTake,aa3]
    | [k,r0]=>simp [dTake,aa3]
    | [k,r0,r1]=>simp [dTake,aa3]
    | k :: r0 :: r1 :: z :: t=>simp [dTake,leI];intro h;omega
  simp -implicitDefEqProofs [e1,e2,e3,e4,hn,w1,w2]
  refine WL_st (α:=Nat × Nat × Bool × List Ms) (fun x=>⟨sp 74 [(0,.s s),(2,.ptr 0 0),(4,.ptr 1 0),(5,.ptr 2 0),(6,.i .i64 x.1)],[[.i .i64 0,.i .i64 0,.nil],[.s s,.i .i64 x.2.1,.b x.2.2.1],[.i .i64 (leI a.1),.i .i64 (leI b.1+256*leI b2.1),.sl 0 0 x.2.2.2.length false]],[.row 3 false (x.2.2.2.map msV)]⟩)
    (fun x=>x.1) (fun x=>rdMsgs n c.2.1 c.2.2 []=rdMsgs x.1 (s.drop x.2.1) x.2.2.1 x.2.2.2∧x.2.1≤s.length∧x.2.2.2.length+x.1≤255) (n,k4,c.2.2,[]) _ (by simp -implicitDefEqProofs) ⟨by rw [r4],q3,by simpa using hn2⟩ ?_
  rintro ⟨k,t,bad,ms⟩ ⟨hP,ht,hm⟩
  simp only at hP ht hm
  rw [hP] at hd
  have f0:=fun K=>aq9 false ⟨leI a.1,leI b.1+256*leI b2.1,ms⟩ (by simp only;unfold lim;omega) K
  cases k with
  | zero=>
    simp only [rdMsgs] at hd
    rw [hd]
    cases bad with
    | true=>simp -implicitDefEqProofs
    | false=>
      by_cases h2:t=s.length
      · by_cases h3:(Hd.mk (leI a.1) (leI b.1+256*leI b2.1) ms).ok=true <;> simp -implicitDefEqProofs [h2,h3,f0]
      · have h4:¬ s.length≤t:=by omega
        have h5:¬ (t:Int)=s.length:=by omega
        simp -implicitDefEqProofs [h2,h4,h5]
  | succ k=>
    cases bad with
    | true=>
      rw [aa3] at hd
      rw [hd]
      have c1:(0:Int)<(k:Int)+1:=by omega
      simp -implicitDefEqProofs [c1]
    | false=>
      obtain ⟨a',ha'⟩:∃ a',a'=dTake 1 (s.drop t) false:=⟨_,rfl⟩
      obtain ⟨b',hb'⟩:∃ b',b'=dTake 1 a'.2.1 a'.2.2:=⟨_,rfl⟩
      obtain ⟨c',hc'⟩:∃ c',c'=dTake 1 b'.2.1 b'.2.2:=⟨_,rfl⟩
      obtain ⟨z,hz,hz2⟩:∃ z:Nat,leI c'.1=z∧z≤255:=by
        have:=abc (s:=b'.2.1) (bad:=b'.2.2)
        rw [← hc'] at this
        exact ⟨(leI c'.1).toNat,by omega,by omega⟩
      obtain ⟨d',hd'⟩:∃ d',d'=dTake z c'.2.1 c'.2.2:=⟨_,rfl⟩
      have p0:=rAt_le (s:=s) (n:=1) ht
      have p1:=rAt_le (s:=s) (n:=1) p0
      have p2:=rAt_le (s:=s) (n:=1) p1
      have p3:=rAt_le (s:=s) (n:=z) p2
      have s1:s.drop (rAt s 1 t)=a'.2.1:=by rw [aaz (bad:=false),ha']
      have s2:s.drop (rAt s 1 (rAt s 1 t))=b'.2.1:=by rw [aaz (bad:=a'.2.2),hb',s1]
      have s3:s.drop (rAt s 1 (rAt s 1 (rAt s 1 t)))=c'.2.1:=by rw [aaz (bad:=b'.2.2),hc',s2]
      have s4:s.drop (rAt s z (rAt s 1 (rAt s 1 (rAt s 1 t))))=d'.2.1:=by rw [aaz (bad:=c'.2.2),hd',s3]
      have f1:=fun K=>aat s t false hs ht K
      rw [← ha'] at f1
      have f2:=fun K=>aat s _ a'.2.2 hs p0 K
      rw [s1,← hb'] at f2
      have f3:=fun K=>aat s _ b'.2.2 hs p1 K
      rw [s2,← hc'] at f3
      have f4:=fun K=>afe s _ z c'.2.2 hs p2 (by omega) K
      rw [s3,← hd'] at f4
      generalize rAt s 1 t=t1 at *
      generalize rAt s 1 t1=t2 at *
      generalize rAt s 1 t2=t3 at *
      generalize rAt s z t3=t4 at *
      have hr:rdMs (s.drop t) false=(⟨leI a'.1,leI b'.1,d'.1⟩,d'.2.1,d'.2.2):=by
        unfold rdMs
        simp only [← ha',← hb',← hc',hz,Int.toNat_natCast,← hd']
      have c1:(0:Int)<(k:Int)+1:=by omega
      have c2:ms.length+1≤lim:=by unfold lim;omega
      have w:IntKind.i64.wrap (k:Int)=k:=wrap_i64 (by omega) (by omega)
      simp -implicitDefEqProofs [c1,f1,f2,f3,hz,f4,c2,w]
      refine NextS.mk (k,t4,d'.2.2,ms++[⟨leI a'.1,leI b'.1,d'.1⟩]) ⟨?_,p3,by simp;omega⟩ (by simp) ?_
      · rw [hP,rdMsgs,hr];simp [s4]
      · simp [msV]
end Go.VS
end
section
namespace Go.VS
theorem ach (q:Bool) (l:List Int) (v:Int) (hl:l.length≤lim) (K:Out→Prop):Call prog 96 ⟨[.view q 1 (l.map (V.i .i64)),.i .i64 v],[],[]⟩ K=K (.b (decide (v ∈ l)),[],[]):=by
  have ix:∀ K,Call prog 125 ⟨[.view q 1 (l.map (V.i .i64)),.i .i64 v],[],[]⟩ K=K (.i .i64 (idxF (fun x=>v == x) l 0),[],[]):=by
    intro K
    refine Zc (f:=125) rfl rfl (by decide) ?_
    unfold lim at hl
    simp -implicitDefEqProofs
    refine WL_for (fun i=>⟨sp 19 [(0,.view q 1 (l.map (V.i .i64))),(1,.i .i64 v),(7,.i .i64 l.length),(8,.i .i64 i)],[],[]⟩) l.length (fun i=>idxF (fun x=>v == x) l 0=idxF (fun x=>v == x) (l.drop i) i) _ (by simp -implicitDefEqProofs) (by simp) ?_
    intro i hi hP
    by_cases hlt:i<l.length
    · have hw:=wrap_i64 (n:=(i:Int)+1) (by omega) (by omega)
      have hx:=ajt (pr:=fun x:Int=>v == x) (List.getElem?_eq_getElem hlt)
      rw [hP,hx]
      by_cases hk:v=l[i]
      · have hk':(v == l[i])=true:=by simpa using hk
        simp -implicitDefEqProofs [hlt,← hk]
      · have hk':(v == l[i])=false:=by simpa using hk
        simp -implicitDefEqProofs [hlt,hk,hk',hw,Next]
    · rw [hP,alv (by omega)]
      simp -implicitDefEqProofs [hlt]
  refine Zc (f:=96) rfl rfl (by decide) ?_
  have e:l.any (fun x=>v == x)=decide (v ∈ l):=by
    rw [Bool.eq_iff_iff];simp [List.any_eq_true]
  simp -implicitDefEqProofs [ix,ar8]
  exact e
theorem ad0 (q:Bool) (l:List Int) (v:Int) (hl:l.length≤lim) (K:Out→Prop):Call prog 92 ⟨[.view q 1 (l.map (V.i .i64)),.i .i64 v],[],[]⟩ K=K (.b (decide (v ∈ l)),[],[]):=by
  refine Zc (f:=92) rfl rfl (by decide) ?_
  unfold lim at hl
  have e:l.any (fun x=>x == v)=decide (v ∈ l):=by
    rw [Bool.eq_iff_iff];simp [List.any_eq_true]
  rw [← e]
  simp -implicitDefEqProofs
  refine WL_for (fun i=>⟨sp 18 [(0,.view q 1 (l.map (V.i .i64))),(1,.i .i64 v),(5,.i .i64 i)],[],[]⟩) l.length (fun i=>l.any (fun x=>x == v)=(l.drop i).any (fun x=>x == v)) _ (by simp -implicitDefEqProofs) (by simp) ?_
  intro i hi hP
  by_cases hlt:i<l.length
  · have hw:=wrap_i64 (n:=(i:Int)+1) (by omega) (by omega)
    rw [hP,afa hlt]
    by_cases hk:l[i]=v
    · simp -implicitDefEqProofs [hlt,hk]
    · have hk':(l[i] == v)=false:=by simpa using hk
      simp -implicitDefEqProofs [hlt,hk,hk',hw,Next]
  · rw [hP,ahu (by omega)]
    simp -implicitDefEqProofs [hlt]
theorem aow (a b:Int) (K:Out→Prop):Call prog 155 ⟨[.i .i64 a,.i .i64 b],[],[]⟩ K=K (.i .i64 (if b<a then a else b),[],[]):=by
  refine Zc (f:=155) rfl rfl (by decide) ?_
  by_cases h:b<a <;> simp -implicitDefEqProofs [h]
theorem alx (n:Nat) (hn:n≤lim) (K:Out→Prop):Call prog 130 ⟨[.i .i64 n],[],[]⟩ K=K (.s (List.replicate n 0),[],[]):=by
  refine Zc (f:=130) rfl rfl (by decide) ?_
  have e:∀ K,Call prog 155 ⟨[.i .i64 n,.i .i64 0],[],[]⟩ K=K (.i .i64 n,[],[]):=by
    intro K
    rw [aow]
    have:(if (0:Int)<n then (n:Int) else 0)=n:=by split <;> omega
    rw [this]
  have e2:(List.replicate n (V.i .u8 0)).take n=List.replicate n (V.i .u8 0):=List.take_of_length_le (by simp)
  simp -implicitDefEqProofs [e,hn,cvsV,e2,ala]
theorem ajh {pg:Bs} (hl:pg.length=64) {x:Int × Bs} (h:chainB pg=some x) (K:Out→Prop):Call prog 149 ⟨[.s pg],[],[]⟩ K=K (.tup [.i .i64 x.1,.s x.2,.b true],[],[]):=by
  refine Zc (f:=149) rfl rfl (by decide) ?_
  unfold chainB at h
  split at h
  · rename_i c
    obtain ⟨c1,c2,c3⟩:=c
    cases h
    have b1:1≤chN pg∧chN pg≤60:=by simpa [inI] using c1
    obtain ⟨n,hn⟩:∃ n:Nat,chN pg=n:=⟨(chN pg).toNat,by omega⟩
    have d1:dTake 2 pg false=(pg.take 2,pg.drop 2,false):=by unfold dTake;rw [if_pos (by omega)]
    have d2:dTake 2 (pg.drop 2) false=((pg.drop 2).take 2,pg.drop 4,false):=by unfold dTake;rw [if_pos (by rw [List.length_drop];omega),List.drop_drop]
    have d3:dTake n (pg.drop 4) false=((pg.drop 4).take n,pg.drop (4+n),false):=by unfold dTake;rw [if_pos (by rw [List.length_drop];omega),List.drop_drop]
    have e1:=fun K=>abi pg false 2 (by unfold lim;omega) (by omega) K
    rw [d1] at e1
    have e2:=fun K=>abi (pg.drop 2) false 2 (by rw [List.length_drop];unfold lim;omega) (by omega) K
    rw [d2] at e2
    have e3:=fun K=>ads (pg.drop 4) false n (by rw [List.length_drop];unfold lim;omega) (by omega) K
    rw [d3] at e3
    have e4:=fun K=>aiv (pg.drop (4+n)) (by rw [List.length_drop];unfold lim;omega) K
    have hn2:leI ((pg.drop 2).take 2)=n:=hn
    rw [hn] at c1 c2 b1 c3
    simp only [Int.toNat_natCast] at c2
    simp only [Int.cast_ofNat_Int] at e1 e2
    rw [c2] at e4
    rw [hn]
    by_cases c4:n=60
    · subst c4
      simp only [Int.cast_ofNat_Int,Nat.reduceAdd] at c1 e3 e4 hn2
      simp -implicitDefEqProofs [e1,e2,hn2,aab,c1,e3,e4,chX]
    · have c5:chX pg=0:=by omega
      have c4':¬ (n:Int)=60:=by omega
      unfold chX at c5
      simp -implicitDefEqProofs [e1,e2,hn2,aab,c1,e3,e4,chX,c4,c4',c5]
  · cases h
theorem ajg {pg:Bs} (hl:pg.length=64) (h:chainB pg=none):∃ (a:Int) (b:Bs),∀ K:Out→Prop,Call prog 149 ⟨[.s pg],[],[]⟩ K=K (.tup [.i .i64 a,.s b,.b false],[],[]):=by
  unfold chainB at h
  have hb:=chN_bd (pg:=pg)
  obtain ⟨n,hn⟩:∃ n:Nat,chN pg=n:=⟨(chN pg).toNat,by omega⟩
  have d1:dTake 2 pg false=(pg.take 2,pg.drop 2,false):=by unfold dTake;rw [if_pos (by omega)]
  have d2:dTake 2 (pg.drop 2) false=((pg.drop 2).take 2,pg.drop 4,false):=by unfold dTake;rw [if_pos (by rw [List.length_drop];omega),List.drop_drop]
  have e1:=fun K=>abi pg false 2 (by unfold lim;omega) (by omega) K
  rw [d1] at e1
  have e2:=fun K=>abi (pg.drop 2) false 2 (by rw [List.length_drop];unfold lim;omega) (by omega) K
  rw [d2] at e2
  simp only [Int.cast_ofNat_Int] at e1 e2
  have hn2:leI ((pg.drop 2).take 2)=n:=hn
  split at h
  · cases h
  rename_i c
  rw [hn] at c
  simp only [Int.toNat_natCast] at c
  cases c1:inI (n:Int) 1 60
  · refine ⟨0,[],adu ?_⟩
    rw [ahr (p:=prog) (f:=149) rfl _ _ _ rfl (by decide)]
    simp -implicitDefEqProofs [e1,e2,hn2,aab,c1]
  · have b1:1≤n∧n≤60:=by
      simp only [inI,decide_eq_true_eq] at c1;omega
    have d3:dTake n (pg.drop 4) false=((pg.drop 4).take n,pg.drop (4+n),false):=by unfold dTake;rw [if_pos (by rw [List.length_drop];omega),List.drop_drop]
    have e3:=fun K=>ads (pg.drop 4) false n (by rw [List.length_drop];unfold lim;omega) (by omega) K
    rw [d3] at e3
    have e4:=fun K=>aiv (pg.drop (4+n)) (by rw [List.length_drop];unfold lim;omega) K
    refine ⟨chX pg,(pg.drop 4).take n,adu ?_⟩
    rw [ahr (p:=prog) (f:=149) rfl _ _ _ rfl (by decide)]
    by_cases c2:trimR 0 (pg.drop (4+n))=[]
    · have c3:¬ n=60:=fun e=>c ⟨c1,c2,.inl (by omega)⟩
      have c4:¬ chX pg=0:=fun e=>c ⟨c1,c2,.inr e⟩
      rw [c2] at e4
      have c3':¬ (n:Int)=60:=by omega
      unfold chX at c4
      simp -implicitDefEqProofs [e1,e2,hn2,aab,c1,e3,e4,chX,c3,c3',c4]
    · simp -implicitDefEqProofs [e1,e2,hn2,aab,c1,e3,e4,chX,c2]
end Go.VS
end
section
namespace Go.VS
theorem aki (a:V) (n:Nat) (tg:Bool) (xs:List V) (ha:isSelf a=true) (K:Out→Prop):Call prog 178 ⟨[.ptr 0 0],[[a,.sl 0 0 n tg]],[.row 1 false xs]⟩ K=K (.tup [],[[.ptr 0 0,.sl 0 0 n tg]],[.row 1 false xs]):=by
  rw [adc (p:=prog) (f:=178) rfl]
  have:nCopyCheck ⟨[.ptr 0 0],[[a,.sl 0 0 n tg]],[.row 1 false xs]⟩=some (.tup [],[[.ptr 0 0,.sl 0 0 n tg]],[.row 1 false xs]):=by
    simp only [nCopyCheck,ha,if_true]
  rw [this,agk]
theorem ah0 {a:V} (h:isSelf a=true):a=.bz∨a=.ptr 0 0:=by
  unfold isSelf at h
  split at h
  · exact .inl rfl
  · exact .inr rfl
  · cases h
theorem aiy (a:V) (fm l:Bs) (ha:isSelf a=true) (hl:fm.length+l.length≤lim) (K:Out→Prop):
    Call prog 150 ⟨[.ptr 0 0,.s l],[[a,.sl 0 0 fm.length (decide (fm=[]))]],[.row 1 false (bytesT fm)]⟩ K=
    K (.tup [.i .i64 l.length,.no],[[.ptr 0 0,.sl 0 0 (fm++l).length (decide (fm++l=[]))]],[.row 1 false (bytesT (fm++l))]):=by
  refine Zc (f:=150) rfl rfl (by decide) ?_
  obtain ⟨tg,htg⟩:∃ tg,tg=decide (fm=[]):=⟨_,rfl⟩
  have e:=fun K=>aki a fm.length tg (bytesT fm) ha K
  have hl2:l.length≤lim:=by omega
  have e2:=fun t m r d id (h:r.getD id .gone=.row 1 false (bytesT fm))=>arl t m r d id h htg hl
  rw [← htg]
  by_cases h0:l=[]
  · subst h0
    have e3:decide (fm++[]=[])=tg:=by rw [htg];simp
    rw [e3]
    rcases ah0 ha with rfl | rfl <;> simp -implicitDefEqProofs [e,e2]
  · have e3:decide (fm++l=[])=false:=by simp [h0]
    rw [e3]
    by_cases h1:fm=[]
    · subst h1
      simp only [List.length_nil] at e2 e
      rcases ah0 ha with rfl | rfl <;> simp -implicitDefEqProofs [e,e2,h0]
    · rcases ah0 ha with rfl | rfl <;> simp -implicitDefEqProofs [e,e2,h0,h1]
theorem aho:∀ l:Bs,tbytes (bytesT l)=some l
  | []=>rfl
  | x :: l=>by
    have:=aho l
    unfold bytesT at this ⊢
    rw [List.map_cons,tbytes,this,Option.map_some]
    simp
theorem ami (a:V) (fm:Bs) (ha:isSelf a=true) (K:Out→Prop):Call prog 151 ⟨[.ptr 0 0],[[a,.sl 0 0 fm.length (decide (fm=[]))]],[.row 1 false (bytesT fm)]⟩ K=
    K (.s fm,[[a,.sl 0 0 fm.length (decide (fm=[]))]],[.row 1 true (bytesT fm)]):=by
  rw [adc (p:=prog) (f:=151) rfl]
  have:nBuilderString ⟨[.ptr 0 0],[[a,.sl 0 0 fm.length (decide (fm=[]))]],[.row 1 false (bytesT fm)]⟩=some (.s fm,[[a,.sl 0 0 fm.length (decide (fm=[]))]],[.row 1 true (bytesT fm)]):=by
    simp only [nBuilderString]
    rw [if_pos ⟨ha,by simp⟩,aho,Option.map_some]
  rw [this,agk]
def adV (bl:List Int):V:=if bl=[] then .bz else .ptr 1 0
structure ChP (p:Pr) (k0 k:Int) (bl:List Int) (fm:Bs):Prop where
  nd:bl.Nodup
  bd:∀ x,x ∈ bl→0≤x∧x<((256:Nat):Int)
  fl:fm.length≤60*bl.length
theorem ChP.len {p:Pr} {k0 k:Int} {bl:List Int} {fm:Bs} (h:ChP p k0 k bl fm):bl.length≤256:=aql 256 bl h.nd h.bd
theorem ChP.step {p:Pr} (hp:p.Ok) {k0 k:Int} {bl:List Int} {fm:Bs} (h:ChP p k0 k bl fm) (ha:p.alloc k=true) (hn:¬ k ∈ bl) {x:Int × Bs} (hx:chainB (p.get k)=some x):ChP p k0 x.1 (bl++[k]) (fm++x.2):=by
  have hk:p.data k=true:=by
    unfold Pr.alloc at ha
    simp only [Bool.and_eq_true] at ha
    exact ha.1
  have hb:=p.data_bd hp hk
  have hl:=aqy hx
  refine ⟨?_,?_,?_⟩
  · rw [List.nodup_append]
    refine ⟨h.nd,by simp,fun a ha b hb e=>hn ?_⟩
    simp only [List.mem_singleton] at hb
    rw [← hb,← e];exact ha
  · intro y hy
    rcases List.mem_append.1 hy with h1 | h1
    · exact h.bd y h1
    · simp only [List.mem_singleton] at h1
      subst h1
      omega
  · have:=h.fl
    rw [List.length_append,List.length_append,List.length_singleton]
    omega
set_option maxHeartbeats 1000000 in
theorem aqz (q:Bool) (p:Pr) (h:p.Ok) (k0:Int) (K:Out→Prop):Call prog 126 ⟨[.vp (prC q p),.i .i64 k0],[],[]⟩ K=K (chainOut p k0):=by
  refine Zc (f:=126) rfl rfl (by decide) ?_
  simp -implicitDefEqProofs
  refine WL_st (α:=Int × List Int × Bs) (fun x=>⟨sp 55 [(0,.vp (prC q p)),(1,.i .i64 x.1),(5,.ptr 0 0),(7,.sl 1 0 x.2.1.length false),(8,.ptr 1 0)],[[.i .i64 0,.i .i64 0,.nil],[adV x.2.1,.sl 0 0 x.2.2.length (decide (x.2.2=[]))]],[.row 1 false (bytesT x.2.2),.row 1 false (x.2.1.map (V.i .i64))]⟩)
    (fun x=>257 - x.2.1.length) (fun x=>ChP p k0 x.1 x.2.1 x.2.2∧(if x.1=0∧x.2.1≠[] then chainF p 257 k0 [] []=some (x.2.1,x.2.2) else chainF p 257 k0 [] []=chainF p (257 - x.2.1.length) x.1 x.2.1 x.2.2)) (k0,[],[]) _ (by simp -implicitDefEqProofs [adV,bytesT]) ⟨⟨by simp,by simp,by simp⟩,by simp⟩ ?_
  rintro ⟨k,bl,fm⟩ ⟨hC,hP⟩
  simp only at hC hP
  have hlen:=hC.len
  have hfl:=hC.fl
  by_cases hdone:k=0∧bl≠[]
  · rw [if_pos hdone] at hP
    obtain ⟨rfl,hne⟩:=hdone
    have hne':¬ bl.length=0:=by simpa using hne
    unfold chainOut
    rw [hP]
    have e1:=fun K=>ami (.ptr 0 0) fm rfl K
    have e2:=fun K=>ahs fm (by unfold lim;omega) K
    cases hd:decHdr fm with
    | none=>
      simp only [hd] at e2
      simp -implicitDefEqProofs [hne,hne',e1,e2,hd,adV]
    | some hh=>
      simp only [hd] at e2
      simp -implicitDefEqProofs [hne,hne',e1,e2,hd,adV]
  · rw [if_neg hdone] at hP
    obtain ⟨f,hf⟩:∃ f,257 - bl.length=f+1:=⟨256 - bl.length,by omega⟩
    rw [hf] at hP
    have hun:chainF p (f+1) k bl fm=(if p.alloc k=true∧¬k ∈ bl then
        match chainB (p.get k) with
        | none=>none
        | some x=>if x.1=0 then some (bl++[k],fm++x.2) else chainF p f x.1 (bl++[k]) (fm++x.2)
      else none):=rfl
    rw [hun] at hP
    have e1:=fun K=>akf q p h k K
    have e2:=fun K=>ach false bl k (by unfold lim;omega) K
    cases ha:p.alloc k with
    | false=>
      unfold chainOut
      rw [hP]
      by_cases hk:k=0
      · have hb:bl=[]:=Decidable.not_not.1 fun hne=>hdone ⟨hk,hne⟩
        subst hb
        subst hk
        simp -implicitDefEqProofs [e1,ha]
      · simp -implicitDefEqProofs [hk,e1,ha]
    | true=>
      have hdt:p.data k=true:=by
        unfold Pr.alloc at ha
        simp only [Bool.and_eq_true] at ha
        exact ha.1
      have hb:=p.data_bd h hdt
      have hk:¬ k=0:=by
        intro e
        subst e
        have:=h.sub
        simp only [Pr.data,Bool.and_eq_true,decide_eq_true_eq] at hdt
        omega
      by_cases hm:k ∈ bl
      · unfold chainOut
        rw [hP]
        simp -implicitDefEqProofs [hk,e1,ha,e2,hm]
      · have e3:=fun K=>alt q p h k (by omega) K
        have hl:=p.get_len h k (by omega)
        have c2:bl.length+1≤lim:=by unfold lim;omega
        cases hx:chainB (p.get k) with
        | none=>
          obtain ⟨x,y,e4⟩:=ajg hl hx
          unfold chainOut
          rw [hP]
          simp -implicitDefEqProofs [hk,e1,ha,e2,hm,c2,e3,e4,hx]
        | some x=>
          have e4:=fun K=>ajh hl hx K
          have hC':=hC.step h ha hm hx
          have hfl':=hC'.fl
          have hll:=hC'.len
          rw [List.length_append] at hfl' hll
          have hP':chainF p 257 k0 [] []=(if p.alloc k=true∧¬k ∈ bl then
              match chainB (p.get k) with
              | none=>none
              | some x=>if x.1=0 then some (bl++[k],fm++x.2) else chainF p f x.1 (bl++[k]) (fm++x.2)
            else none):=hP
          rw [if_pos ⟨ha,hm⟩,hx] at hP'
          simp only at hP'
          have hws:∀ (a:V) (ha:isSelf a=true) (K:Out→Prop),Call prog 150 ⟨[.ptr 0 0,.s x.2],[[a,.sl 0 0 fm.length (decide (fm=[]))]],[.row 1 false (bytesT fm)]⟩ K=K (.tup [.i .i64 x.2.length,.no],[[.ptr 0 0,.sl 0 0 (fm++x.2).length (decide (fm++x.2=[]))]],[.row 1 false (bytesT (fm++x.2))]):=
            fun a ha K=>aiy a fm x.2 ha (by rw [List.length_append] at *;unfold lim;omega) K
          by_cases hb0:bl=[]
          · have e5:=fun K=>hws .bz rfl K
            have had:adV bl=.bz:=by simp [adV,hb0]
            simp -implicitDefEqProofs [hk,e1,ha,e2,hm,c2,e3,e4,hx,had,e5]
            refine NextS.mk (x.1,bl++[k],fm++x.2) ?_ ?_ ?_
            · refine ⟨hC',?_⟩
              simp only
              rw [hP']
              by_cases h0:x.1=0
              · rw [if_pos ⟨h0,by simp⟩,if_pos h0]
              · rw [if_neg (fun e=>h0 e.1),if_neg h0,List.length_append,List.length_singleton,show 257 - (bl.length+1)=f by omega]
            · simp only [List.length_append,List.length_singleton] at hll ⊢;omega
            · simp [adV]
          · have e5:=fun K=>hws (.ptr 0 0) rfl K
            have had:adV bl=.ptr 1 0:=by simp [adV,hb0]
            simp -implicitDefEqProofs [hk,e1,ha,e2,hm,c2,e3,e4,hx,had,e5]
            refine NextS.mk (x.1,bl++[k],fm++x.2) ?_ ?_ ?_
            · refine ⟨hC',?_⟩
              simp only
              rw [hP']
              by_cases h0:x.1=0
              · rw [if_pos ⟨h0,by simp⟩,if_pos h0]
              · rw [if_neg (fun e=>h0 e.1),if_neg h0,List.length_append,List.length_singleton,show 257 - (bl.length+1)=f by omega]
            · simp only [List.length_append,List.length_singleton] at hll ⊢;omega
            · simp [adV]
end Go.VS
end
section
namespace Go.VS
theorem arq {pg:Bs} (hl:pg.length=64) {n:Nat} (hn:chN pg=n):chainB pg=
    if n<1∨60<n then none else if chX pg≠0∧n≠60 then none else if pg.drop (4+n)=List.replicate (60 - n) 0 then some (chX pg,(pg.drop 4).take n) else none:=by
  unfold chainB
  have htr:=ati (pg.drop (4+n))
  rw [List.length_drop,hl,show 64 - (4+n)=60 - n by omega] at htr
  rw [hn,Int.toNat_natCast]
  by_cases c1:n<1∨60<n
  · rw [if_pos c1,if_neg]
    rintro ⟨h,_⟩
    simp only [inI,decide_eq_true_eq] at h
    omega
  · rw [if_neg c1]
    by_cases c2:chX pg≠0∧n≠60
    · rw [if_pos c2,if_neg]
      rintro ⟨_,_,h⟩
      omega
    · rw [if_neg c2]
      by_cases c3:pg.drop (4+n)=List.replicate (60 - n) 0
      · rw [if_pos c3,if_pos]
        refine ⟨by simp only [inI,decide_eq_true_eq];omega,htr.2 c3,by omega⟩
      · rw [if_neg c3,if_neg]
        exact fun h=>c3 (htr.1 h.2.1)
set_option maxHeartbeats 1000000 in
theorem al0 (q:Bool) (p:Pr) (h:p.Ok) (k0:Int) (K:Out→Prop):Call prog 102 ⟨[.vp (prC q p),.i .i64 k0],[],[]⟩ K=K (chainOut p k0):=by
  refine Zc (f:=102) rfl rfl (by decide) ?_
  simp -implicitDefEqProofs
  refine WL_st (α:=Int × List Int × Bs) (fun x=>⟨sp 88 [(0,.vp (prC q p)),(5,.ptr 0 0),(7,.sl 0 0 x.2.1.length false),(8,.s x.2.2),(9,.i .i64 x.1)],[[.i .i64 0,.i .i64 0,.nil]],[.row 1 false (x.2.1.map (V.i .i64))]⟩)
    (fun x=>257 - x.2.1.length) (fun x=>ChP p k0 x.1 x.2.1 x.2.2∧chainF p 257 k0 [] []=chainF p (257 - x.2.1.length) x.1 x.2.1 x.2.2) (k0,[],[]) _ (by simp -implicitDefEqProofs) ⟨⟨by simp,by simp,by simp⟩,by simp⟩ ?_
  rintro ⟨k,bl,fm⟩ ⟨hC,hP⟩
  simp only at hC hP
  have hlen:=hC.len
  have hfl:=hC.fl
  obtain ⟨f,hf⟩:∃ f,257 - bl.length=f+1:=⟨256 - bl.length,by omega⟩
  rw [hf] at hP
  have hun:chainF p (f+1) k bl fm=(if p.alloc k=true∧¬k ∈ bl then
      match chainB (p.get k) with
      | none=>none
      | some x=>if x.1=0 then some (bl++[k],fm++x.2) else chainF p f x.1 (bl++[k]) (fm++x.2)
    else none):=rfl
  rw [hun] at hP
  have e1:=fun K=>ang q p h k K
  have e2:=fun K=>ad0 false bl k (by unfold lim;omega) K
  cases ha:p.alloc k with
  | false=>
    unfold chainOut
    rw [hP]
    simp -implicitDefEqProofs [e1,ha]
  | true=>
    have hdt:p.data k=true:=by
      unfold Pr.alloc at ha
      simp only [Bool.and_eq_true] at ha
      exact ha.1
    have hb:=p.data_bd h hdt
    by_cases hm:k ∈ bl
    · unfold chainOut
      rw [hP]
      simp -implicitDefEqProofs [e1,ha,e2,hm]
    · have e3:=fun K=>ajx q p h k (by omega) K
      have hl:=p.get_len h k (by omega)
      have c2:bl.length+1≤lim:=by unfold lim;omega
      generalize hpg:p.get k=pg at *
      have hnb:=chN_bd (pg:=pg)
      obtain ⟨n,hn⟩:∃ n:Nat,chN pg=n:=⟨(chN pg).toNat,by omega⟩
      have hxb:=chX_bd (pg:=pg)
      have hce:=arq hl hn
      have u1:=fun K=>ael pg 0 2 (by unfold lim;omega) (by omega) (by omega) (by omega) K
      have u2:=fun K=>ael pg 2 2 (by unfold lim;omega) (by omega) (by omega) (by omega) K
      simp only [Int.natCast_zero,Int.cast_ofNat_Int,List.drop_zero] at u1 u2
      have hn2:leI ((pg.drop 2).take 2)=n:=hn
      have hx2:leI (pg.take 2)=chX pg:=rfl
      simp only [hn2] at u2
      simp only [hx2] at u1
      by_cases d1:n<1∨60<n
      · rw [if_pos d1] at hce
        unfold chainOut
        rw [hP,hce]
        by_cases d1':n<1
        · have d1i:(n:Int)<1:=by omega
          simp -implicitDefEqProofs [e1,ha,e2,hm,c2,e3,hpg,u1,u2,d1i]
        · have d1i:¬ (n:Int)<1:=by omega
          have d2i:(60:Int)<n:=by omega
          simp -implicitDefEqProofs [e1,ha,e2,hm,c2,e3,hpg,u1,u2,d1i,d2i]
      rw [if_neg d1] at hce
      have d1i:¬ (n:Int)<1:=by omega
      have d2i:¬ (60:Int)<n:=by omega
      by_cases d3:chX pg≠0∧n≠60
      · rw [if_pos d3] at hce
        unfold chainOut
        rw [hP,hce]
        have d4:¬ (n:Int)=60:=by omega
        simp -implicitDefEqProofs [e1,ha,e2,hm,c2,e3,hpg,u1,u2,d1i,d2i,d3.1,d3.2,d4]
      rw [if_neg d3] at hce
      have w1:=wrap_i64 (n:=4+(n:Int)) (by omega) (by omega)
      have w2:=wrap_i64 (n:=60 - (n:Int)) (by omega) (by omega)
      have t1:(4+(n:Int)).toNat=4+n:=by omega
      have t64:pg.take 64=pg:=List.take_of_length_le (by omega)
      have g1:(0:Int)≤4+(n:Int):=by omega
      have g2:4+(n:Int)≤64:=by omega
      have g3:(4:Int)≤4+(n:Int):=by omega
      have e6:∀ K,Call prog 130 ⟨[.i .i64 (60 - (n:Int))],[],[]⟩ K=K (.s (List.replicate (60 - n) 0),[],[]):=by
        intro K
        have:=alx (60 - n) (by unfold lim;omega) K
        rw [show ((60 - n:Nat):Int)=60 - (n:Int) by omega] at this
        exact this
      by_cases d5:pg.drop (4+n)=List.replicate (60 - n) 0
      · rw [if_pos d5] at hce
        have hce':chainB (p.get k)=some (chX pg,(pg.drop 4).take n):=by rw [hpg];exact hce
        have hC':=hC.step h ha hm hce'
        have hfl':=hC'.fl
        have hll:=hC'.len
        simp only [List.length_append,List.length_singleton] at hll hfl'
        rw [if_pos ⟨ha,hm⟩,hce] at hP
        simp only at hP
        have hcat:fm.length+((pg.drop 4).take n).length≤lim:=by
          unfold lim;omega
        have hcat2:fm.length+(min n (64 - 4))≤lim:=by
          rw [List.length_take,List.length_drop,hl] at hcat;exact hcat
        have tk:((pg.take (4+n)).drop 4)=(pg.drop 4).take n:=by rw [List.drop_take,Nat.add_sub_cancel_left]
        by_cases d6:chX pg=0
        · rw [if_pos d6] at hP
          unfold chainOut
          rw [hP]
          have e7:=fun K=>ahl (fm++(pg.drop 4).take n) (by rw [List.length_append];exact hcat) K
          have hsz:(bl++[k]).length=bl.length+1:=by simp
          cases hd:decHdr (fm++(pg.drop 4).take n) with
          | none=>
            simp only [hd] at e7
            by_cases d7:n=60
            · have d4:(n:Int)=60:=by omega
              simp -implicitDefEqProofs [e1,ha,e2,hm,c2,e3,hpg,u1,u2,d1i,d2i,d6,w1,w2,t1,g1,g2,g3,e6,d5,t64,hl,tk,hcat2,e7,hd]
            · have d4:¬ (n:Int)=60:=by omega
              simp -implicitDefEqProofs [e1,ha,e2,hm,c2,e3,hpg,u1,u2,d1i,d2i,d6,d4,w1,w2,t1,g1,g2,g3,e6,d5,t64,hl,tk,hcat2,e7,hd]
          | some hh=>
            simp only [hd] at e7
            simp -implicitDefEqProofs [e1,ha,e2,hm,c2,e3,hpg,u1,u2,d1i,d2i,d6,w1,w2,t1,g1,g2,g3,e6,d5,t64,hl,tk,hcat2,e7,hd]
        · rw [if_neg d6] at hP
          have d7:n=60:=Decidable.not_not.1 fun e=>d3 ⟨d6,e⟩
          have fin:NextS (fun x=>⟨sp 88 [(0,.vp (prC q p)),(5,.ptr 0 0),(7,.sl 0 0 x.2.1.length false),(8,.s x.2.2),(9,.i .i64 x.1)],[[.i .i64 0,.i .i64 0,.nil]],[.row 1 false (x.2.1.map (V.i .i64))]⟩)
              (fun x:Int × List Int × Bs=>ChP p k0 x.1 x.2.1 x.2.2∧chainF p 257 k0 [] []=chainF p (257 - x.2.1.length) x.1 x.2.1 x.2.2) (fun x=>257 - x.2.1.length) (257 - bl.length)
              ⟨sp 88 [(0,.vp (prC q p)),(5,.ptr 0 0),(7,.sl 0 0 (bl.length+1) false),(8,.s (fm++(pg.drop 4).take n)),(9,.i .i64 (chX pg))],[[.i .i64 0,.i .i64 0,.nil]],[.row 1 false (bl.map (V.i .i64)++[V.i .i64 k])]⟩:=by
            refine NextS.mk (chX pg,bl++[k],fm++(pg.drop 4).take n) ?_ ?_ ?_
            · refine ⟨hC',?_⟩
              simp only
              rw [hP,List.length_append,List.length_singleton,show 257 - (bl.length+1)=f by omega]
            · simp only [List.length_append,List.length_singleton];omega
            · simp
          subst d7
          have e60:(pg.drop 4).take 60=pg.drop 4:=List.take_of_length_le (by rw [List.length_drop];omega)
          rw [e60] at fin
          have hcat3:fm.length+60≤lim:=by unfold lim;omega
          simp only [Int.cast_ofNat_Int,Nat.reduceAdd,Nat.reduceSub,Int.reduceAdd,Int.reduceSub] at u2 d1i d2i w1 w2 t1 g1 g2 g3 e6 d5
          simp -implicitDefEqProofs [e1,ha,e2,hm,c2,e3,hpg,u1,u2,d6,e6,d5,t64,hl,hcat3]
          exact fin
      · rw [if_neg d5] at hce
        unfold chainOut
        rw [hP,hce]
        by_cases d6:chX pg=0
        · simp -implicitDefEqProofs [e1,ha,e2,hm,c2,e3,hpg,u1,u2,d1i,d2i,d6,w1,w2,t1,g1,g2,e6,d5,t64,hl]
        · have d7:n=60:=Decidable.not_not.1 fun e=>d3 ⟨d6,e⟩
          subst d7
          exact absurd (List.drop_of_length_le (by omega)) d5
end Go.VS
end
