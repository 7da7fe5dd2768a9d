/- The walk of the law RegionsNests. -/

